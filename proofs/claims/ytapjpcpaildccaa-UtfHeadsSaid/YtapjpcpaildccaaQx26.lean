/- Functions of the translation as plain Lean functions, each with a proof that the Go code comes to its answers, wherever the function has one; no other condition. Written by this session's own program (wip/myprint.py). -/
import Derived.Test.YtapjpcpaildccaaQx0
import Derived.Test.YtapjpcpaildccaaQx7
import Derived.Test.YtapjpcpaildccaaQx10
import Derived.Test.YtapjpcpaildccaaQx11
namespace Go.Proofs.Ytapjpcpaildccaa.Q
open Go.RowKit Go.Proofs.YtapjpcpaildccaaW.PrintWords Go.Proofs.YtapjpcpaildccaaW.PrintLast Go.Proofs.YtapjpcpaildccaaW.PrintMore
attribute [local go_sem] max2_int min2_int max_two min_two max_three min_three max_four min_four   -- for this text's walks alone
set_option linter.unusedVariables false
set_option linter.unusedSimpArgs false

/-! ### exerguelaw01_UtfHeads: function 8 -/
def exerguelaw01_UtfHeads.j0 : Nat → Int → Bool → List Int → List Int → Bool → Option (Bool)
  | 0, _, _, _, _, _ => none
  | k + 1, x2, x7, x8, x10, x49 => if x49 = true then (some x7) else ((some (([] : List Int) : List Int)).bind fun y343 => (if y343.length + x8.length < 140737488355328 then ((some (y343 ++ x8 : List Int)).bind fun y346 => (if 0 ≤ x2 then (if x2 ≤ (x10.length : Int) then ((some (x10.take (x2 : Int).toNat : List Int)).bind fun y349 => (if y346.length + y349.length < 140737488355328 then ((utf_Decode.f k (y346 ++ y349)).bind fun bt356 => ((utf_Decode.f k (x10.drop (x2 : Int).toNat)).bind fun bt365 => (if x7 = true then (if bt356.2.2 = 3 then (if bt356.2.1 = (x8.length : Int) then (if (bt356.1.length : Int) = 0 then (if bt365.2.2 = 3 then (some (bt365.2.1 == 0)) else (some false)) else (some false)) else (some false)) else (some false)) else (some false)))) else (none))) else (none)) else (none))) else (none)))
def exerguelaw01_UtfHeads.f (k : Nat) (l0 : List Int) (a1 : Int) (a2 : Int) : Option (Bool) := (exerguelaw01_shown.f k).bind fun t331 => (if (l0.length : Int) > 300 then (some t331) else ((utf_Encode.f k l0).bind fun bt332 => ((utf_Encode.f k (([a1] : List Int))).bind fun bt339 => (if bt332.2 = 0 then (if bt339.2 = 0 then (if a2 < 1 then (exerguelaw01_UtfHeads.j0 k a2 t331 bt332.1 bt339.1 true) else (exerguelaw01_UtfHeads.j0 k a2 t331 bt332.1 bt339.1 (decide (a2 ≥ (bt339.1.length : Int))))) else (exerguelaw01_UtfHeads.j0 k a2 t331 bt332.1 bt339.1 true)) else (exerguelaw01_UtfHeads.j0 k a2 t331 bt332.1 bt339.1 true)))))
theorem exerguelaw01_UtfHeads.mono_l : ∀ k, (∀ y0 y1 y2 y3 y4, LeO (exerguelaw01_UtfHeads.j0 k y0 y1 y2 y3 y4) (exerguelaw01_UtfHeads.j0 (k + 1) y0 y1 y2 y3 y4))
  | 0 => fun _ _ _ _ _ r h => by simp [exerguelaw01_UtfHeads.j0] at h
  | k + 1 => by
    have ih0 := exerguelaw01_UtfHeads.mono_l k
    · intro y0 y1 y2 y3 y4
      unfold exerguelaw01_UtfHeads.j0
      repeat' first
      | (with_reducible exact ih0 _ _ _ _ _)
      | (with_reducible exact exerguelaw01_shown.mono _)
      | (with_reducible exact utf_Decode.mono _ _)
      | (with_reducible exact utf_Encode.mono _ _)
      | (with_reducible exact LeO.refl _)
      | (with_reducible exact LeO.none _)
      | (with_reducible refine LeO.ite ?_ ?_)
      | (with_reducible refine LeO.bind ?_ (fun _ => ?_))
      | exact ih0 _ _ _ _ _
      | exact exerguelaw01_shown.mono _
      | exact utf_Decode.mono _ _
      | exact utf_Encode.mono _ _
      | exact LeO.none _
      | refine LeO.ite ?_ ?_
      | refine LeO.bind ?_ (fun _ => ?_)
theorem exerguelaw01_UtfHeads.mono : ∀ a0 a1 a2 k, LeO (exerguelaw01_UtfHeads.f k a0 a1 a2) (exerguelaw01_UtfHeads.f (k + 1) a0 a1 a2) := by
  intro a0 a1 a2 k
  have ih0 := exerguelaw01_UtfHeads.mono_l k
  unfold exerguelaw01_UtfHeads.f
  repeat' first
      | (with_reducible exact ih0 _ _ _ _ _)
      | (with_reducible exact exerguelaw01_shown.mono _)
      | (with_reducible exact utf_Decode.mono _ _)
      | (with_reducible exact utf_Encode.mono _ _)
      | (with_reducible exact LeO.refl _)
      | (with_reducible exact LeO.none _)
      | (with_reducible refine LeO.ite ?_ ?_)
      | (with_reducible refine LeO.bind ?_ (fun _ => ?_))
      | exact ih0 _ _ _ _ _
      | exact exerguelaw01_shown.mono _
      | exact utf_Decode.mono _ _
      | exact utf_Encode.mono _ _
      | exact LeO.none _
      | refine LeO.ite ?_ ?_
      | refine LeO.bind ?_ (fun _ => ?_)
def exerguelaw01_UtfHeads.T8 : Bool × List (List Nat × List Nat) := (true, [([], []), ([], []), ([0, 1], [0, 1]), ([], []), ([], []), ([3, 4], [3, 4]), ([2, 5, 2], [2, 5]), ([6, 6], [6]), ([7], [7]), ([8], [8]), ([8], [8]), ([8], [8]), ([9, 7, 0, 1, 2, 3, 4, 5, 6, 7, 8, 9], [9]), ([10, 12, 0, 1, 2, 3, 4, 5, 6, 7, 8, 9, 10, 12], [10]), ([11, 13, 0, 1, 2, 3, 4, 5, 6, 7, 8, 9, 10, 11, 12, 13], [11])])
def exerguelaw01_UtfHeads.B8 : List Nat := [0, 0, 3, 0, 0, 24, 63, 127, 255, 511, 511, 511, 1023, 6143, 16383]
theorem exerguelaw01_UtfHeads.tab8 : rtab .any (opsOf Try.f8 8) = exerguelaw01_UtfHeads.T8 := by kernel_rfl
theorem exerguelaw01_UtfHeads.bits8 : waitsOk exerguelaw01_UtfHeads.T8.2 exerguelaw01_UtfHeads.B8 = true := by kernel_rfl
set_option maxHeartbeats 8000000 in
set_option maxRecDepth 100000 in
theorem exerguelaw01_UtfHeads.calls (k : Nat) (A0 : Option Addr) (c0 : Nat) (l0 : List Int) (a1 : Int) (a2 : Int) (r : Bool) (w : World) (hr0 : Kd.C (Kd.int .i32) w A0 l0.length l0) (hc0 : l0.length ≤ c0) (h : exerguelaw01_UtfHeads.f k l0 a1 a2 = some r) :
    Calls Try.prog 8 #[.slice A0 l0.length c0, .int .i32 a1, .int .i64 a2] w fun e w' => e = .returned (.bool r) ∧ Below w.heap.size w w' := by
  have HR0 := Aside0.mk hr0
  have HC0 := Aside0.mk hc0
  clear hr0 hc0
  have HB := Aside0.mk (Below.refl w.heap.size w)
  have H : ((exerguelaw01_shown.f k).bind fun t331 => (if (l0.length : Int) > 300 then (some t331) else ((utf_Encode.f k l0).bind fun bt332 => ((utf_Encode.f k (([a1] : List Int))).bind fun bt339 => (if bt332.2 = 0 then (if bt339.2 = 0 then (if a2 < 1 then (exerguelaw01_UtfHeads.j0 k a2 t331 bt332.1 bt339.1 true) else (exerguelaw01_UtfHeads.j0 k a2 t331 bt332.1 bt339.1 (decide (a2 ≥ (bt339.1.length : Int))))) else (exerguelaw01_UtfHeads.j0 k a2 t331 bt332.1 bt339.1 true)) else (exerguelaw01_UtfHeads.j0 k a2 t331 bt332.1 bt339.1 true)))))) = some r := h
  clear h
  replace H := Option.bind_eq_some_iff.mp H
  obtain ⟨t331, A40, H⟩ := H
  replace H : (if (l0.length : Int) > 300 then (some t331) else ((utf_Encode.f k l0).bind fun bt332 => ((utf_Encode.f k (([a1] : List Int))).bind fun bt339 => (if bt332.2 = 0 then (if bt339.2 = 0 then (if a2 < 1 then (exerguelaw01_UtfHeads.j0 k a2 t331 bt332.1 bt339.1 true) else (exerguelaw01_UtfHeads.j0 k a2 t331 bt332.1 bt339.1 (decide (a2 ≥ (bt339.1.length : Int))))) else (exerguelaw01_UtfHeads.j0 k a2 t331 bt332.1 bt339.1 true)) else (exerguelaw01_UtfHeads.j0 k a2 t331 bt332.1 bt339.1 true))))) = some r := H
  have A4 := Aside0.mk A40
  clear A40
  by_cases c5 : (l0.length : Int) > 300
  · rw [if_pos c5] at H
    have c5b0 : decide (300 < (l0.length : Int)) = true := decide_eq_true c5
    have c5b1 : decide (300 < l0.length) = true := decide_eq_true (by omega)
    clear c5
    obtain rfl := Option.some.inj H
    go_enter Try.func8, Try.ntmps8
    go_wp2_with (first | ((with_reducible refine gate_callee (f := 10) rfl ?_); refine goesL_ (some 18) rfl rfl Try.func10 (by kernel_rfl) rfl #[] rfl (by (try simp only [List.map_toArray, List.map_cons, List.map_nil]); first | done | rfl | (simp only [List.length_drop, List.length_take]; rfl)) ?_; (with_reducible refine (exerguelaw01_shown.calls k  t331 _ A4.out).mono ?_); rintro e w6 ⟨rfl, hb⟩; refine ⟨_, rfl, ?_⟩; have n0_ := Aside0.mk (below_step (by repeat (first | (with_reducible first | exact HB.out | apply below_alloc | apply pw_below_drewN | apply below_drew1) | exact HB.out)) hb); clear HB; have HB := n0_; clear n0_; (try clear hb); (try clear hb2); (try clear hk); (try clear hi)))
    go_ret
    exact ⟨by first | rfl | (simp [errW_none, errW_some] <;> rfl) | (simp [*, errW_none, errW_some] <;> rfl), by repeat (first | (with_reducible first | exact HB.out | apply below_alloc | apply pw_below_drewN | apply below_drew1) | exact HB.out)⟩
  · rw [if_neg c5] at H
    have c5b0 : decide (300 < (l0.length : Int)) = false := decide_eq_false c5
    have c5b1 : decide (300 < l0.length) = false := decide_eq_false (by omega)
    clear c5
    replace H := Option.bind_eq_some_iff.mp H
    obtain ⟨⟨t332, t333⟩, A70, H⟩ := H
    replace H : ((utf_Encode.f k (([a1] : List Int))).bind fun bt339 => (if t333 = 0 then (if bt339.2 = 0 then (if a2 < 1 then (exerguelaw01_UtfHeads.j0 k a2 t331 t332 bt339.1 true) else (exerguelaw01_UtfHeads.j0 k a2 t331 t332 bt339.1 (decide (a2 ≥ (bt339.1.length : Int))))) else (exerguelaw01_UtfHeads.j0 k a2 t331 t332 bt339.1 true)) else (exerguelaw01_UtfHeads.j0 k a2 t331 t332 bt339.1 true))) = some r := H
    have A7 := Aside0.mk A70
    clear A70
    obtain ⟨y336, hy336⟩ : ∃ y_ : List Int, y_ = (([a1] : List Int)) := ⟨_, rfl⟩
    replace H : ((utf_Encode.f k y336).bind fun bt339 => (if t333 = 0 then (if bt339.2 = 0 then (if a2 < 1 then (exerguelaw01_UtfHeads.j0 k a2 t331 t332 bt339.1 true) else (exerguelaw01_UtfHeads.j0 k a2 t331 t332 bt339.1 (decide (a2 ≥ (bt339.1.length : Int))))) else (exerguelaw01_UtfHeads.j0 k a2 t331 t332 bt339.1 true)) else (exerguelaw01_UtfHeads.j0 k a2 t331 t332 bt339.1 true))) = some r := by first | (rw [hy336]; with_reducible exact H) | (have H2_ := (Option.bind_some _ _).symm.trans H; rw [hy336]; with_reducible exact H2_) | (have H2_ := (Option.bind_some _ _).symm.trans H; with_reducible exact H2_) | with_reducible exact H | (rw [hy336]; exact H) | exact H
    have Ny336 := Aside0.mk hy336
    clear hy336
    replace H := Option.bind_eq_some_iff.mp H
    obtain ⟨⟨t339, t340⟩, A80, H⟩ := H
    replace H : (if t333 = 0 then (if t340 = 0 then (if a2 < 1 then (exerguelaw01_UtfHeads.j0 k a2 t331 t332 t339 true) else (exerguelaw01_UtfHeads.j0 k a2 t331 t332 t339 (decide (a2 ≥ (t339.length : Int))))) else (exerguelaw01_UtfHeads.j0 k a2 t331 t332 t339 true)) else (exerguelaw01_UtfHeads.j0 k a2 t331 t332 t339 true)) = some r := H
    have A8 := Aside0.mk A80
    clear A80
    have HC9 := Aside0.mk H
    clear H
    go_enter Try.func8, Try.ntmps8
    go_upto_region 6 with (first | ((with_reducible refine gate_callee (f := 10) rfl ?_); refine goesL_ (some 18) rfl rfl Try.func10 (by kernel_rfl) rfl #[] rfl (by (try simp only [List.map_toArray, List.map_cons, List.map_nil]); first | done | rfl | (simp only [List.length_drop, List.length_take]; rfl)) ?_; (with_reducible refine (exerguelaw01_shown.calls k  t331 _ A4.out).mono ?_); rintro e w10 ⟨rfl, hb⟩; refine ⟨_, rfl, ?_⟩; have n0_ := Aside0.mk (below_step (by repeat (first | (with_reducible first | exact HB.out | apply below_alloc | apply pw_below_drewN | apply below_drew1) | exact HB.out)) hb); clear HB; have HB := n0_; clear n0_; (try clear hb); (try clear hb2); (try clear hk); (try clear hi)) | ((with_reducible refine gate_callee (f := 17) rfl ?_); refine goesL_ (some 25) rfl rfl Try.func17 (by kernel_rfl) rfl #[.slice A0 l0.length c0] rfl (by (try simp only [List.map_toArray, List.map_cons, List.map_nil]); first | done | rfl | (simp only [List.length_drop, List.length_take]; rfl)) ?_; (with_reducible refine (utf_Encode.calls k _ _ l0 t332 t333 _ ?side1 ?side2 A7.out).mono ?_); (case side1 => repeat (first | exact (Kd.C_below HR0.out HB.out) | (with_reducible refine Kd.C_alloc ?_ _) | (with_reducible refine Kd.C_drewN ?_ _) | (with_reducible refine Kd.C_drew ?_))); (case side2 => exact HC0.out); rintro e w11 ⟨v334, rfl, ho0, hb⟩; refine ⟨_, rfl, ?_⟩; have n0_ := Aside0.mk (Kd.R_lower ho0 (below_size (by repeat (first | (with_reducible first | exact HB.out | apply below_alloc | apply pw_below_drewN | apply below_drew1) | exact HB.out)))); have n1_ := Aside0.mk (below_step (by repeat (first | (with_reducible first | exact HB.out | apply below_alloc | apply pw_below_drewN | apply below_drew1) | exact HB.out)) hb); clear HB; have HO335 := n0_; have HB := n1_; clear n0_ n1_; (try clear hb); (try clear hb2); (try clear hk); (try clear hi); (try clear ho0)) | ((with_reducible refine gate_dst (N := 30) rfl ?_); (try (refine gate_guard (by rfl) ?_; dsimp only)); refine Kd.R_lit (Kd.int .i32) _ 21 ?hg (N := 30) ?hd (xs := ([a1] : List Int)) (inner := [.int .i32 a1]) (ok := fun _ => True) (okp := fun _ => True) ?hr ?hp (fun _ hk => hk) trivial (Below.refl _ _) (Nat.le_refl _) (by simp) ?_; (case hd => rfl); (case hg => rfl); (case hr => first | (go_simp; done) | (go_simp; rfl)); (case hp => exact (Reps.one (show Kd.M (Kd.int .i32) _ _ _ a1 [.int .i32 a1] from rfl) (Reps.none _ _))); intro v337 w12 ho13 hb hg_ hnew_; clear hg_ hnew_; (first | rw [← Ny336.out] at ho13 | (simp only [Int.reduceToNat] at ho13; rw [← Ny336.out] at ho13)); have n0_ := Aside0.mk (Kd.R_below (by (with_reducible repeat (first | apply Kd.R_alloc | apply Kd.R_drewN | apply Kd.R_drew)); exact HO335.out) hb); have n1_ := Aside0.mk (Kd.R_lower ho13 (below_size (by repeat (first | (with_reducible first | exact HB.out | apply below_alloc | apply pw_below_drewN | apply below_drew1) | exact HB.out)))); have n2_ := Aside0.mk (below_step (by repeat (first | (with_reducible first | exact HB.out | apply below_alloc | apply pw_below_drewN | apply below_drew1) | exact HB.out)) hb); clear HO335; clear HB; have HO335 := n0_; have HO338 := n1_; have HB := n2_; clear n0_ n1_ n2_; clear hb ho13; obtain ⟨Ao14, co14, eo14⟩ := Kd.R_slice HO338.out; subst eo14) | ((with_reducible refine gate_callee (f := 17) rfl ?_); refine goesL_ (some 31) rfl rfl Try.func17 (by kernel_rfl) rfl #[.slice Ao14 y336.length co14] rfl (by (try simp only [List.map_toArray, List.map_cons, List.map_nil]); first | done | rfl | (simp only [List.length_drop, List.length_take]; rfl)) ?_; (with_reducible refine (utf_Encode.calls k _ _ y336 t339 t340 _ ?side1 ?side2 A8.out).mono ?_); (case side1 => repeat (first | exact (Kd.R_reads' HO338.out).2.2 | (with_reducible refine Kd.C_alloc ?_ _) | (with_reducible refine Kd.C_drewN ?_ _) | (with_reducible refine Kd.C_drew ?_))); (case side2 => exact (Kd.R_reads' HO338.out).2.1); rintro e w15 ⟨v341, rfl, ho0, hb⟩; refine ⟨_, rfl, ?_⟩; have n0_ := Aside0.mk (Kd.R_elder' (by (with_reducible repeat (first | apply Kd.R_alloc | apply Kd.R_drewN | apply Kd.R_drew)); exact HO335.out) (Kd.R_base ho0) hb); have n1_ := Aside0.mk (Kd.R_below (by (with_reducible repeat (first | apply Kd.R_alloc | apply Kd.R_drewN | apply Kd.R_drew)); exact HO338.out) hb); have n2_ := Aside0.mk (Kd.R_lower (Kd.R_new' ho0 (Kd.R_lt (by (with_reducible repeat (first | apply Kd.R_alloc | apply Kd.R_drewN | apply Kd.R_drew)); exact HO335.out))) (below_size (by repeat (first | (with_reducible first | exact HB.out | apply below_alloc | apply pw_below_drewN | apply below_drew1) | exact HB.out)))); have n3_ := Aside0.mk (below_step (by repeat (first | (with_reducible first | exact HB.out | apply below_alloc | apply pw_below_drewN | apply below_drew1) | exact HB.out)) hb); clear HO335; clear HO338; clear HB; have HO335 := n0_; have HO338 := n1_; have HO342 := n2_; have HB := n3_; clear n0_ n1_ n2_ n3_; (try clear hb); (try clear hb2); (try clear hk); (try clear hi); (try clear ho0)))
    (try simp only [Act.put, List.setIfInBounds_toArray, List.set_cons_zero, List.set_cons_succ])
    go_cut [49] (fun v49 wc => ∃ (kq : Nat) (x49_8 : Bool), v49 = .bool x49_8 ∧ Aside0 (exerguelaw01_UtfHeads.j0 kq a2 t331 t332 t339 x49_8 = some r) ∧ Aside0 (kq ≤ k) ∧ Aside0 (Kd.R (Kd.int .u8) 5 wc w.heap.size (fun k_ => some k_ ≠ (v341 : Value).ownBlock) v334 t332) ∧ Aside0 (Kd.R (Kd.int .u8) 5 wc w.heap.size (fun k_ => some k_ ≠ (v334 : Value).ownBlock) v341 t339) ∧ Aside0 (Below w.heap.size w wc))
    case first =>
      have H := HC9.out
      clear HC9
      by_cases c16 : t333 = 0
      · rw [if_pos c16] at H
        have c16b0 : (t333 == 0) = true := beq_iff_eq.mpr c16
        have c16b1 : (t333 != 0) = false := bne_eq_false_iff_eq.mpr c16
        clear c16
        (first | rw [c16b0] | (simp only [i64_w, i32_w]; rw [c16b0]) | skip)
        by_cases c17 : t340 = 0
        · rw [if_pos c17] at H
          have c17b0 : (t340 == 0) = true := beq_iff_eq.mpr c17
          have c17b1 : (t340 != 0) = false := bne_eq_false_iff_eq.mpr c17
          clear c17
          by_cases c18 : a2 < 1
          · rw [if_pos c18] at H
            have c18b0 : decide (a2 < 1) = true := decide_eq_true c18
            clear c18
            have H' := Aside0.mk H
            clear H
            go_wp2
            go_meet
            case rel => exact ⟨_, (true), (by first | rfl | (simp; done) | (simp [*]; done)), H', ⟨by first | omega | exact Nat.le_refl _⟩, ⟨by (with_reducible repeat (first | apply Kd.R_alloc | apply Kd.R_drewN | apply Kd.R_drew)); exact Kd.R_mono HO335.out (fun _ hk => hk.2)⟩, ⟨by (with_reducible repeat (first | apply Kd.R_alloc | apply Kd.R_drewN | apply Kd.R_drew)); exact Kd.R_mono HO342.out (fun _ hk => hk.2)⟩, ⟨by repeat (first | (with_reducible first | exact HB.out | apply below_alloc | apply pw_below_drewN | apply below_drew1) | exact HB.out)⟩⟩
          · rw [if_neg c18] at H
            have c18b0 : decide (a2 < 1) = false := decide_eq_false c18
            clear c18
            have H' := Aside0.mk H
            clear H
            obtain ⟨Ao19, co19, eo19⟩ := Kd.R_slice HO342.out
            subst eo19
            go_wp2
            go_meet
            case rel => exact ⟨_, (decide (a2 ≥ (t339.length : Int))), (by first | rfl | (simp; done) | (simp [*]; done)), H', ⟨by first | omega | exact Nat.le_refl _⟩, ⟨by (with_reducible repeat (first | apply Kd.R_alloc | apply Kd.R_drewN | apply Kd.R_drew)); exact Kd.R_mono HO335.out (fun _ hk => hk.2)⟩, ⟨by (with_reducible repeat (first | apply Kd.R_alloc | apply Kd.R_drewN | apply Kd.R_drew)); exact Kd.R_mono HO342.out (fun _ hk => hk.2)⟩, ⟨by repeat (first | (with_reducible first | exact HB.out | apply below_alloc | apply pw_below_drewN | apply below_drew1) | exact HB.out)⟩⟩
        · rw [if_neg c17] at H
          have c17b0 : (t340 == 0) = false := beq_eq_false_iff_ne.mpr c17
          have c17b1 : (t340 != 0) = true := bne_iff_ne.mpr c17
          have H' := Aside0.mk H
          clear H
          go_wp2
          go_meet
          case rel => exact ⟨_, (true), (by first | rfl | (simp; done) | (simp [*]; done)), H', ⟨by first | omega | exact Nat.le_refl _⟩, ⟨by (with_reducible repeat (first | apply Kd.R_alloc | apply Kd.R_drewN | apply Kd.R_drew)); exact Kd.R_mono HO335.out (fun _ hk => hk.2)⟩, ⟨by (with_reducible repeat (first | apply Kd.R_alloc | apply Kd.R_drewN | apply Kd.R_drew)); exact Kd.R_mono HO342.out (fun _ hk => hk.2)⟩, ⟨by repeat (first | (with_reducible first | exact HB.out | apply below_alloc | apply pw_below_drewN | apply below_drew1) | exact HB.out)⟩⟩
      · rw [if_neg c16] at H
        have c16b0 : (t333 == 0) = false := beq_eq_false_iff_ne.mpr c16
        have c16b1 : (t333 != 0) = true := bne_iff_ne.mpr c16
        (first | rw [c16b0] | (simp only [i64_w, i32_w]; rw [c16b0]) | skip)
        have H' := Aside0.mk H
        clear H
        go_wp2
        go_meet
        case rel => exact ⟨_, (true), (by first | rfl | (simp; done) | (simp [*]; done)), H', ⟨by first | omega | exact Nat.le_refl _⟩, ⟨by (with_reducible repeat (first | apply Kd.R_alloc | apply Kd.R_drewN | apply Kd.R_drew)); exact Kd.R_mono HO335.out (fun _ hk => hk.2)⟩, ⟨by (with_reducible repeat (first | apply Kd.R_alloc | apply Kd.R_drewN | apply Kd.R_drew)); exact Kd.R_mono HO342.out (fun _ hk => hk.2)⟩, ⟨by repeat (first | (with_reducible first | exact HB.out | apply below_alloc | apply pw_below_drewN | apply below_drew1) | exact HB.out)⟩⟩
    case rest =>
      clear HC9
      try clear c1
      try clear p2
      try clear c5
      try clear c5b0
      try clear c5b1
      try clear c8
      try clear c10
      try clear c16
      try clear c16b0
      try clear c16b1
      try clear c17
      try clear c17b0
      try clear c17b1
      try clear c18
      try clear c18b0
      obtain ⟨kq, x49_8, rfl, HA, HJ8, HO_8, HO_10, HB⟩ := hcut
      cases kq with
      | zero => exact absurd HA.out (by simp [exerguelaw01_UtfHeads.j0])
      | succ kj8 =>
        have H := HA.out
        clear HA
        simp only [exerguelaw01_UtfHeads.j0] at H
        by_cases c20 : x49_8 = true
        · subst c20
          have H1 : (some t331) = some r := by rw [if_pos rfl] at H; exact H
          clear H
          have H := H1
          clear H1
          obtain rfl := Option.some.inj H
          go_wp2
          go_ret
          exact ⟨by first | rfl | (simp [errW_none, errW_some] <;> rfl) | (simp [*, errW_none, errW_some] <;> rfl), by repeat (first | (with_reducible first | exact HB.out | apply below_alloc | apply pw_below_drewN | apply below_drew1) | exact HB.out)⟩
        · replace c20 := Bool.eq_false_iff.mpr c20
          subst c20
          have H1 : ((some (([] : List Int) : List Int)).bind fun y343 => (if y343.length + t332.length < 140737488355328 then ((some (y343 ++ t332 : List Int)).bind fun y346 => (if 0 ≤ a2 then (if a2 ≤ (t339.length : Int) then ((some (t339.take (a2 : Int).toNat : List Int)).bind fun y349 => (if y346.length + y349.length < 140737488355328 then ((utf_Decode.f kj8 (y346 ++ y349)).bind fun bt356 => ((utf_Decode.f kj8 (t339.drop (a2 : Int).toNat)).bind fun bt365 => (if t331 = true then (if bt356.2.2 = 3 then (if bt356.2.1 = (t332.length : Int) then (if (bt356.1.length : Int) = 0 then (if bt365.2.2 = 3 then (some (bt365.2.1 == 0)) else (some false)) else (some false)) else (some false)) else (some false)) else (some false)))) else (none))) else (none)) else (none))) else (none))) = some r := by rw [if_neg (show ¬ (false = true) by decide)] at H; exact H
          clear H
          have H := H1
          clear H1
          obtain ⟨y343, hy343⟩ : ∃ y_ : List Int, y_ = (([] : List Int)) := ⟨_, rfl⟩
          replace H : (if y343.length + t332.length < 140737488355328 then ((some (y343 ++ t332 : List Int)).bind fun y346 => (if 0 ≤ a2 then (if a2 ≤ (t339.length : Int) then ((some (t339.take (a2 : Int).toNat : List Int)).bind fun y349 => (if y346.length + y349.length < 140737488355328 then ((utf_Decode.f kj8 (y346 ++ y349)).bind fun bt356 => ((utf_Decode.f kj8 (t339.drop (a2 : Int).toNat)).bind fun bt365 => (if t331 = true then (if bt356.2.2 = 3 then (if bt356.2.1 = (t332.length : Int) then (if (bt356.1.length : Int) = 0 then (if bt365.2.2 = 3 then (some (bt365.2.1 == 0)) else (some false)) else (some false)) else (some false)) else (some false)) else (some false)))) else (none))) else (none)) else (none))) else (none)) = some r := by first | (rw [hy343]; with_reducible exact H) | (have H2_ := (Option.bind_some _ _).symm.trans H; rw [hy343]; with_reducible exact H2_) | (have H2_ := (Option.bind_some _ _).symm.trans H; with_reducible exact H2_) | with_reducible exact H | (rw [hy343]; exact H) | exact H
          have Ny343 := Aside0.mk hy343
          clear hy343
          by_cases c21 : y343.length + t332.length < 140737488355328
          · rw [if_pos c21] at H
            have LMc21 := Aside0.mk c21
            clear c21
            obtain ⟨y346, hy346⟩ : ∃ y_ : List Int, y_ = (y343 ++ t332) := ⟨_, rfl⟩
            replace H : (if 0 ≤ a2 then (if a2 ≤ (t339.length : Int) then ((some (t339.take (a2 : Int).toNat : List Int)).bind fun y349 => (if y346.length + y349.length < 140737488355328 then ((utf_Decode.f kj8 (y346 ++ y349)).bind fun bt356 => ((utf_Decode.f kj8 (t339.drop (a2 : Int).toNat)).bind fun bt365 => (if t331 = true then (if bt356.2.2 = 3 then (if bt356.2.1 = (t332.length : Int) then (if (bt356.1.length : Int) = 0 then (if bt365.2.2 = 3 then (some (bt365.2.1 == 0)) else (some false)) else (some false)) else (some false)) else (some false)) else (some false)))) else (none))) else (none)) else (none)) = some r := by first | (rw [hy346]; with_reducible exact H) | (have H2_ := (Option.bind_some _ _).symm.trans H; rw [hy346]; with_reducible exact H2_) | (have H2_ := (Option.bind_some _ _).symm.trans H; with_reducible exact H2_) | with_reducible exact H | (rw [hy346]; exact H) | exact H
            have Ny346 := Aside0.mk hy346
            clear hy346
            by_cases c22 : 0 ≤ a2
            · rw [if_pos c22] at H
              have c22b0 := eq_true c22
              have c22b1 : decide (0 ≤ a2) = true := decide_eq_true c22
              clear c22
              by_cases c23 : a2 ≤ (t339.length : Int)
              · rw [if_pos c23] at H
                have c23b0 := eq_true c23
                have c23b1 : decide (a2 ≤ (t339.length : Int)) = true := decide_eq_true c23
                clear c23
                obtain ⟨y349, hy349⟩ : ∃ y_ : List Int, y_ = (t339.take (a2 : Int).toNat) := ⟨_, rfl⟩
                replace H : (if y346.length + y349.length < 140737488355328 then ((utf_Decode.f kj8 (y346 ++ y349)).bind fun bt356 => ((utf_Decode.f kj8 (t339.drop (a2 : Int).toNat)).bind fun bt365 => (if t331 = true then (if bt356.2.2 = 3 then (if bt356.2.1 = (t332.length : Int) then (if (bt356.1.length : Int) = 0 then (if bt365.2.2 = 3 then (some (bt365.2.1 == 0)) else (some false)) else (some false)) else (some false)) else (some false)) else (some false)))) else (none)) = some r := by first | (rw [hy349]; with_reducible exact H) | (have H2_ := (Option.bind_some _ _).symm.trans H; rw [hy349]; with_reducible exact H2_) | (have H2_ := (Option.bind_some _ _).symm.trans H; with_reducible exact H2_) | with_reducible exact H | (rw [hy349]; exact H) | exact H
                have Ny349 := Aside0.mk hy349
                clear hy349
                by_cases c24 : y346.length + y349.length < 140737488355328
                · rw [if_pos c24] at H
                  have LMc24 := Aside0.mk c24
                  clear c24
                  obtain ⟨y353, hy353⟩ : ∃ y_ : List Int, y_ = (y346 ++ y349) := ⟨_, rfl⟩
                  replace H : ((utf_Decode.f kj8 y353).bind fun bt356 => ((utf_Decode.f kj8 (t339.drop (a2 : Int).toNat)).bind fun bt365 => (if t331 = true then (if bt356.2.2 = 3 then (if bt356.2.1 = (t332.length : Int) then (if (bt356.1.length : Int) = 0 then (if bt365.2.2 = 3 then (some (bt365.2.1 == 0)) else (some false)) else (some false)) else (some false)) else (some false)) else (some false)))) = some r := by first | (rw [hy353]; with_reducible exact H) | (have H2_ := (Option.bind_some _ _).symm.trans H; rw [hy353]; with_reducible exact H2_) | (have H2_ := (Option.bind_some _ _).symm.trans H; with_reducible exact H2_) | with_reducible exact H | (rw [hy353]; exact H) | exact H
                  have Ny353 := Aside0.mk hy353
                  clear hy353
                  replace H := Option.bind_eq_some_iff.mp H
                  obtain ⟨⟨t356, t357, t358⟩, A250, H⟩ := H
                  replace H : ((utf_Decode.f kj8 (t339.drop (a2 : Int).toNat)).bind fun bt365 => (if t331 = true then (if t358 = 3 then (if t357 = (t332.length : Int) then (if (t356.length : Int) = 0 then (if bt365.2.2 = 3 then (some (bt365.2.1 == 0)) else (some false)) else (some false)) else (some false)) else (some false)) else (some false))) = some r := H
                  have A25 := Aside0.mk A250
                  clear A250
                  have c26b0 := eq_true (of_decide_eq_true (by first | (with_reducible assumption) | assumption) : 0 ≤ a2)
                  have c27b0 := eq_true (of_decide_eq_true (by first | (with_reducible assumption) | assumption) : a2 ≤ (t339.length : Int))
                  obtain ⟨y361, hy361⟩ : ∃ y_ : List Int, y_ = (t339.drop (a2 : Int).toNat) := ⟨_, rfl⟩
                  replace H : ((utf_Decode.f kj8 y361).bind fun bt365 => (if t331 = true then (if t358 = 3 then (if t357 = (t332.length : Int) then (if (t356.length : Int) = 0 then (if bt365.2.2 = 3 then (some (bt365.2.1 == 0)) else (some false)) else (some false)) else (some false)) else (some false)) else (some false))) = some r := by first | (rw [hy361]; with_reducible exact H) | (have H2_ := (Option.bind_some _ _).symm.trans H; rw [hy361]; with_reducible exact H2_) | (have H2_ := (Option.bind_some _ _).symm.trans H; with_reducible exact H2_) | with_reducible exact H | (rw [hy361]; exact H) | exact H
                  have Ny361 := Aside0.mk hy361
                  clear hy361
                  replace H := Option.bind_eq_some_iff.mp H
                  obtain ⟨⟨t365, t366, t367⟩, A280, H⟩ := H
                  replace H : (if t331 = true then (if t358 = 3 then (if t357 = (t332.length : Int) then (if (t356.length : Int) = 0 then (if t367 = 3 then (some (t366 == 0)) else (some false)) else (some false)) else (some false)) else (some false)) else (some false)) = some r := H
                  have A28 := Aside0.mk A280
                  clear A280
                  by_cases c29 : t331 = true
                  · subst c29
                    have H1 : (if t358 = 3 then (if t357 = (t332.length : Int) then (if (t356.length : Int) = 0 then (if t367 = 3 then (some (t366 == 0)) else (some false)) else (some false)) else (some false)) else (some false)) = some r := by rw [if_pos rfl] at H; exact H
                    clear H
                    have H := H1
                    clear H1
                    by_cases c30 : t358 = 3
                    · rw [if_pos c30] at H
                      have c30b0 : (t358 == 3) = true := beq_iff_eq.mpr c30
                      have c30b1 : (t358 != 3) = false := bne_eq_false_iff_eq.mpr c30
                      clear c30
                      by_cases c31 : t357 = (t332.length : Int)
                      · rw [if_pos c31] at H
                        have c31b0 : (t357 == (t332.length : Int)) = true := beq_iff_eq.mpr c31
                        have c31b1 : (t357 != (t332.length : Int)) = false := bne_eq_false_iff_eq.mpr c31
                        clear c31
                        by_cases c32 : (t356.length : Int) = 0
                        · rw [if_pos c32] at H
                          have c32b0 : ((t356.length : Int) == 0) = true := beq_iff_eq.mpr c32
                          have c32b1 : ((t356.length : Int) != 0) = false := bne_eq_false_iff_eq.mpr c32
                          clear c32
                          by_cases c33 : t367 = 3
                          · rw [if_pos c33] at H
                            have c33b0 : (t367 == 3) = true := beq_iff_eq.mpr c33
                            have c33b1 : (t367 != 3) = false := bne_eq_false_iff_eq.mpr c33
                            clear c33
                            obtain rfl := Option.some.inj H
                            try go_wp2
                            have n0_ := Aside0.mk (Kd.R_drew HO_8.out)
                            have n1_ := Aside0.mk (Kd.R_drew HO_10.out)
                            have n2_ := Aside0.mk (below_drew1 HB.out)
                            clear HO_8
                            clear HO_10
                            clear HB
                            have HO_8 := n0_
                            have HO_10 := n1_
                            have HB := n2_
                            clear n0_ n1_ n2_
                            obtain ⟨Ao36, co36, eo36⟩ := Kd.R_slice HO_10.out
                            (first | subst eo36 | (injection eo36 with f1_ f2_ f3_; have f4_ := f1_.symm; have f5_ := f3_.symm; clear f1_ f2_ f3_; subst f4_; subst f5_))
                            have q35 : (a2 : Int) ≤ ((t339.length : Int) : Int) := of_decide_eq_true (by first | (with_reducible assumption) | assumption)
                            obtain ⟨i035, hi035, _, hsz35, _⟩ := info_parts info5
                            have hroom35 : t339.length ≤ co36 := (Kd.R_reads' HO_10.out).2.1
                            have hC35 : Kd.C (Kd.int .u8) _ Ao36 t339.length t339 := (Kd.R_reads' HO_10.out).2.2
                            have hcut35 := cut_to (P := Try.prog) 28 5 .i64 Try.underlying28 hi035 Ao36 t339.length co36 a2 (of_decide_eq_true (by first | (with_reducible assumption) | assumption)) q35 hroom35
                            have hr35 := Kd.C_take (m := (a2 : Int).toNat) hC35 (by omega)
                            have hy35 : y349.length = (a2 : Int).toNat := (by rw [Ny349.out, List.length_take]; omega)
                            rw [← Ny349.out] at hr35
                            rw [← hy35] at hcut35
                            have HR352 := Aside0.mk hr35
                            have HC352 := Aside0.mk (show y349.length ≤ co36 from by omega)
                            clear hr35 hC35 hroom35 hi035 hsz35
                            have KY35 := Aside0.mk hy35
                            clear hy35
                            have KL35 := Aside0.mk (show (a2 : Int).toNat ≤ t339.length from by omega)
                            replace q35 := eq_true q35
                            refine start_ (n := 15) (S := fun w' => True) (ds := []) #[false, false, false, false, false, false, false, false, false, false, false, false, false, false, false] (by kernel_rfl) rfl rfl trivial (fun hHeld => ?_); refine with_tabW exerguelaw01_UtfHeads.tab8 exerguelaw01_UtfHeads.bits8 (fun HT_ HW_ => ?_)
                            generalize wc.drew = w34 at HO_8 HO_10 HB HR352 hHeld ⊢
                            refine pure_ (i := 1) (N := some 53) (v := ?_) (a' := ?_) #[false, true, false, false, false, false, false, false, false, false, false, false, false, false, false] rfl rfl (any_of HT_.out (by kernel_rfl)) (fun _ _ _ h => h) (Or.inl ⟨by rfl, ?_⟩) ?_ ?_
                            rotate_left
                            · intro w'
                              go_simp
                              with_reducible rfl
                            rotate_left
                            · simp only [Act.put, List.setIfInBounds_toArray, List.set_cons_zero, List.set_cons_succ, i64_w, i32_w]
                              rfl
                            refine pure_ (i := 3) (N := some 55) (v := ?_) (a' := ?_) #[false, true, false, true, false, false, false, false, false, false, false, false, false, false, false] rfl rfl (any_of HT_.out (by kernel_rfl)) (fun _ _ _ h => h) (Or.inl ⟨by rfl, ?_⟩) ?_ ?_
                            rotate_left
                            · intro w'
                              go_simp
                              with_reducible rfl
                            rotate_left
                            · simp only [Act.put, List.setIfInBounds_toArray, List.set_cons_zero, List.set_cons_succ, i64_w, i32_w]
                              rfl
                            refine pure_ (i := 4) (N := some 56) (v := ?_) (a' := ?_) #[false, true, false, true, true, false, false, false, false, false, false, false, false, false, false] rfl rfl (any_of HT_.out (by kernel_rfl)) (fun _ _ _ h => h) (Or.inl ⟨by rfl, ?_⟩) ?_ ?_
                            rotate_left
                            · intro w'
                              go_simp
                              with_reducible rfl
                            rotate_left
                            · simp only [Act.put, List.setIfInBounds_toArray, List.set_cons_zero, List.set_cons_succ, i64_w, i32_w]
                              rfl
                            refine pure_ (i := 5) (N := some 57) (v := ?_) (a' := ?_) #[false, true, false, true, true, true, false, false, false, false, false, false, false, false, false] rfl rfl (any_of HT_.out (by kernel_rfl)) (fun _ _ _ h => h) (Or.inl ⟨by rfl, ?_⟩) ?_ ?_
                            rotate_left
                            · intro w'
                              go_simp
                              with_reducible rfl
                            rotate_left
                            · simp only [Act.put, List.setIfInBounds_toArray, List.set_cons_zero, List.set_cons_succ, i64_w, i32_w]
                              rfl
                            refine one_ (i := 0) (N := some 52) #[true, true, false, true, true, true, false, false, false, false, false, false, false, false, false] rfl rfl (one_of HT_.out (by kernel_rfl)) (by decide) (fun K hK => ?_)
                            refine Kd.R_lit_step (Kd.int .u8) _ 5 ?hg (N := 52) ?hd (xs := ([] : List Int)) (inner := []) (ok := fun _ => True) (okp := fun _ => True) ?hr ?hp (fun _ hk => hk) trivial (Below.refl _ _) (Nat.le_refl _) (by simp) ?_; (case hd => rfl); (case hg => rfl); (case hr => first | (go_simp; done) | (go_simp; rfl)); (case hp => exact (Reps.none _ _))
                            intro v344 w37 ho38 hb hg_ hnew_
                            clear hg_ hnew_
                            (first | rw [← Ny343.out] at ho38 | (simp only [Int.reduceToNat] at ho38; rw [← Ny343.out] at ho38))
                            have n0_ := Aside0.mk (Kd.R_elder' (by (with_reducible repeat (first | apply Kd.R_alloc | apply Kd.R_drewN | apply Kd.R_drew)); exact HO_8.out) (Kd.R_base ho38) hb)
                            have n1_ := Aside0.mk (Kd.R_elder' (by (with_reducible repeat (first | apply Kd.R_alloc | apply Kd.R_drewN | apply Kd.R_drew)); exact HO_10.out) (Kd.R_base ho38) hb)
                            have n2_ := Aside0.mk (Kd.R_lower (Kd.R_new' (Kd.R_new' ho38 (Kd.R_lt (by (with_reducible repeat (first | apply Kd.R_alloc | apply Kd.R_drewN | apply Kd.R_drew)); exact HO_8.out))) (Kd.R_lt (by (with_reducible repeat (first | apply Kd.R_alloc | apply Kd.R_drewN | apply Kd.R_drew)); exact HO_10.out))) (below_size (by repeat (first | (with_reducible first | exact HB.out | apply below_alloc | apply pw_below_drewN | apply below_drew1) | exact HB.out))))
                            have n3_ := Aside0.mk (Kd.C_below (by repeat (first | (with_reducible exact HR352.out) | (with_reducible refine Kd.C_alloc ?_ _) | (with_reducible refine Kd.C_drewN ?_ _) | (with_reducible refine Kd.C_drew ?_) | exact HR352.out)) hb)
                            have n4_ := Aside0.mk (below_step (by repeat (first | (with_reducible first | exact HB.out | apply below_alloc | apply pw_below_drewN | apply below_drew1) | exact HB.out)) hb)
                            clear HO_8
                            clear HO_10
                            clear HR352
                            clear HB
                            have HO_8 := n0_
                            have HO_10 := n1_
                            have HO345 := n2_
                            have HR352 := n3_
                            have HB := n4_
                            clear n0_ n1_ n2_ n3_ n4_
                            clear hb ho38
                            obtain ⟨Ao40, co40, eo40⟩ := Kd.R_slice HO_8.out
                            (first | subst eo40 | (injection eo40 with f1_ f2_ f3_; have f4_ := f1_.symm; have f5_ := f3_.symm; clear f1_ f2_ f3_; subst f4_; subst f5_))
                            refine hK.out _ _ trivial (fun hHeld => ?_)
                            clear hK K
                            refine norm_ (a' := ?_) ?_ ?_
                            rotate_left
                            · show Act.put _ (some 52) _ = _
                              simp only [Act.put, List.setIfInBounds_toArray, List.set_cons_zero, List.set_cons_succ, i64_w, i32_w]
                              rfl
                            refine one_ (i := 2) (N := some 54) #[true, true, true, true, true, true, false, false, false, false, false, false, false, false, false] rfl rfl (one_of HT_.out (by kernel_rfl)) (by decide) (fun K hK => ?_)
                            refine Kd.R_append_rows_step (Kd.int .u8) (w0 := w) w.heap.size (by rfl) (.tmp 52) (.tmp 53) 28 5 (.int .u8 0) 1 rfl Try.underlying28 info5 rfl (by decide) (by omega) v344 y343 t332 _ _ _ (fun k_ => some k_ ≠ (.slice Ao40 t332.length co40 : Value).ownBlock ∧ some k_ ≠ (.slice Ao36 t339.length co36 : Value).ownBlock) (fun _ => False) rfl rfl ?aO ?aR (fun _ _ h => h) (fun _ h => h.elim) ?aF ?aB ?aS ?aL ?_
                            (case aR => repeat (first | exact (Kd.R_reads' HO_8.out).2.2 | (with_reducible refine Kd.C_alloc ?_ _) | (with_reducible refine Kd.C_drewN ?_ _) | (with_reducible refine Kd.C_drew ?_)))
                            (case aB => exact (by repeat (first | (with_reducible first | exact HB.out | apply below_alloc | apply pw_below_drewN | apply below_drew1) | exact HB.out)))
                            (case aF => exact (fun k_ hk => ⟨Kd.fresh' (Kd.R_lt (by (with_reducible repeat (first | apply Kd.R_alloc | apply Kd.R_drewN | apply Kd.R_drew)); exact HO_8.out)) k_ hk, Kd.fresh' (Kd.R_lt (by (with_reducible repeat (first | apply Kd.R_alloc | apply Kd.R_drewN | apply Kd.R_drew)); exact HO_10.out)) k_ hk⟩))
                            (case aO => exact (by (with_reducible repeat (first | apply Kd.R_alloc | apply Kd.R_drewN | apply Kd.R_drew)); exact Kd.R_mono HO345.out (fun _ hk => ⟨hk.1.2, hk.2⟩)))
                            (case aS => exact (below_size (by repeat (first | (with_reducible first | exact HB.out | apply below_alloc | apply pw_below_drewN | apply below_drew1) | exact HB.out))))
                            (case aL => have := LMc21.out; omega)
                            intro v347 w39 ho hb hg hat
                            rw [← Ny346.out] at ho
                            have n0_ := Aside0.mk (Kd.R_after (ok := (fun k_ => some k_ ≠ (.slice Ao36 t339.length co36 : Value).ownBlock)) (by (with_reducible repeat (first | apply Kd.R_alloc | apply Kd.R_drewN | apply Kd.R_drew)); exact HO_8.out) hg hat)
                            have n1_ := Aside0.mk (Kd.R_after (ok := (fun k_ => some k_ ≠ (.slice Ao40 t332.length co40 : Value).ownBlock)) (by (with_reducible repeat (first | apply Kd.R_alloc | apply Kd.R_drewN | apply Kd.R_drew)); exact HO_10.out) hg hat)
                            have n2_ := Aside0.mk (hb)
                            have n3_ := Aside0.mk ((show Kd.C (Kd.int .u8) w39 Ao36 y349.length y349 from by rw [Ny349.out]; exact Kd.C_take (m := (a2 : Int).toNat) ((Kd.R_reads' (Kd.R_after (ok := (fun k_ => some k_ ≠ (.slice Ao40 t332.length co40 : Value).ownBlock)) (by (with_reducible repeat (first | apply Kd.R_alloc | apply Kd.R_drewN | apply Kd.R_drew)); exact HO_10.out) hg hat)).2.2) KL35.out))
                            have n4_ := Aside0.mk (ho)
                            clear HO_8
                            clear HO_10
                            clear HB
                            clear HR352
                            clear HO345
                            have HO_8 := n0_
                            have HO_10 := n1_
                            have HB := n2_
                            have HR352 := n3_
                            have HO348 := n4_
                            clear n0_ n1_ n2_ n3_ n4_
                            clear ho hb hg hat
                            refine hK.out _ _ trivial (fun hHeld => ?_)
                            clear hK K
                            refine norm_ (a' := ?_) ?_ ?_
                            rotate_left
                            · show Act.put _ (some 54) _ = _
                              simp only [Act.put, List.setIfInBounds_toArray, List.set_cons_zero, List.set_cons_succ, i64_w, i32_w]
                              rfl
                            refine one_ (i := 6) (N := some 58) #[true, true, true, true, true, true, true, false, false, false, false, false, false, false, false] rfl rfl (one_of HT_.out (by kernel_rfl)) (by decide) (fun K hK => ?_)
                            refine Kd.R_append_rows_step (Kd.int .u8) (w0 := w) w.heap.size (by rfl) (.tmp 54) (.tmp 57) 28 5 (.int .u8 0) 1 rfl Try.underlying28 info5 rfl (by decide) (by omega) v347 y346 y349 _ _ _ (fun k_ => some k_ ≠ (.slice Ao40 t332.length co40 : Value).ownBlock ∧ some k_ ≠ (.slice Ao36 t339.length co36 : Value).ownBlock) (fun _ => False) rfl rfl ?aO ?aR (fun _ _ h => h) (fun _ h => h.elim) ?aF ?aB ?aS ?aL ?_
                            (case aR => repeat (first | exact (by repeat (first | (with_reducible exact HR352.out) | (with_reducible refine Kd.C_alloc ?_ _) | (with_reducible refine Kd.C_drewN ?_ _) | (with_reducible refine Kd.C_drew ?_) | exact HR352.out)) | (with_reducible refine Kd.C_alloc ?_ _) | (with_reducible refine Kd.C_drewN ?_ _) | (with_reducible refine Kd.C_drew ?_)))
                            (case aB => exact (by repeat (first | (with_reducible first | exact HB.out | apply below_alloc | apply pw_below_drewN | apply below_drew1) | exact HB.out)))
                            (case aF => exact (fun k_ hk => ⟨Kd.fresh' (Kd.R_lt (by (with_reducible repeat (first | apply Kd.R_alloc | apply Kd.R_drewN | apply Kd.R_drew)); exact HO_8.out)) k_ hk, Kd.fresh' (Kd.R_lt (by (with_reducible repeat (first | apply Kd.R_alloc | apply Kd.R_drewN | apply Kd.R_drew)); exact HO_10.out)) k_ hk⟩))
                            (case aO => exact (by (with_reducible repeat (first | apply Kd.R_alloc | apply Kd.R_drewN | apply Kd.R_drew)); exact HO348.out))
                            (case aS => exact (below_size (by repeat (first | (with_reducible first | exact HB.out | apply below_alloc | apply pw_below_drewN | apply below_drew1) | exact HB.out))))
                            (case aL => have := LMc24.out; omega)
                            intro v354 w41 ho hb hg hat
                            rw [← Ny353.out] at ho
                            have n0_ := Aside0.mk (Kd.R_after (ok := (fun k_ => some k_ ≠ (.slice Ao36 t339.length co36 : Value).ownBlock)) (by (with_reducible repeat (first | apply Kd.R_alloc | apply Kd.R_drewN | apply Kd.R_drew)); exact HO_8.out) hg hat)
                            have n1_ := Aside0.mk (Kd.R_after (ok := (fun k_ => some k_ ≠ (.slice Ao40 t332.length co40 : Value).ownBlock)) (by (with_reducible repeat (first | apply Kd.R_alloc | apply Kd.R_drewN | apply Kd.R_drew)); exact HO_10.out) hg hat)
                            have n2_ := Aside0.mk (hb)
                            have n3_ := Aside0.mk ((show Kd.C (Kd.int .u8) w41 Ao36 y349.length y349 from by rw [Ny349.out]; exact Kd.C_take (m := (a2 : Int).toNat) ((Kd.R_reads' (Kd.R_after (ok := (fun k_ => some k_ ≠ (.slice Ao40 t332.length co40 : Value).ownBlock)) (by (with_reducible repeat (first | apply Kd.R_alloc | apply Kd.R_drewN | apply Kd.R_drew)); exact HO_10.out) hg hat)).2.2) KL35.out))
                            have n4_ := Aside0.mk (ho)
                            clear HO_8
                            clear HO_10
                            clear HB
                            clear HR352
                            clear HO348
                            have HO_8 := n0_
                            have HO_10 := n1_
                            have HB := n2_
                            have HR352 := n3_
                            have HO355 := n4_
                            clear n0_ n1_ n2_ n3_ n4_
                            clear ho hb hg hat
                            obtain ⟨Ao42, co42, eo42⟩ := Kd.R_slice HO355.out
                            (first | subst eo42 | (injection eo42 with f1_ f2_ f3_; have f4_ := f1_.symm; have f5_ := f3_.symm; clear f1_ f2_ f3_; subst f4_; subst f5_))
                            refine hK.out _ _ trivial (fun hHeld => ?_)
                            clear hK K
                            refine norm_ (a' := ?_) ?_ ?_
                            rotate_left
                            · show Act.put _ (some 58) _ = _
                              simp only [Act.put, List.setIfInBounds_toArray, List.set_cons_zero, List.set_cons_succ, i64_w, i32_w]
                              rfl
                            refine one_ (i := 7) (N := some 59) #[true, true, true, true, true, true, true, true, false, false, false, false, false, false, false] rfl rfl (one_of HT_.out (by kernel_rfl)) (by decide) (fun K hK => ?_)
                            refine goes_ Try.func19 (by kernel_rfl) rfl #[.slice Ao42 y353.length co42] (by rfl) rfl rfl (by (try simp only [List.map_toArray, List.map_cons, List.map_nil]); first | done | rfl | (simp only [List.length_drop, List.length_take]; rfl)) ?_
                            with_reducible refine (utf_Decode.calls kj8 _ _ y353 t356 t357 t358 _ ?side1 ?side2 A25.out).mono ?_
                            (case side1 => repeat (first | exact (Kd.R_reads' HO355.out).2.2 | (with_reducible refine Kd.C_alloc ?_ _) | (with_reducible refine Kd.C_drewN ?_ _) | (with_reducible refine Kd.C_drew ?_)))
                            (case side2 => exact (Kd.R_reads' HO355.out).2.1)
                            rintro e w43 ⟨v359, rfl, ho0, hb⟩
                            refine ⟨_, rfl, ?_⟩
                            have n0_ := Aside0.mk (Kd.R_below (by (with_reducible repeat (first | apply Kd.R_alloc | apply Kd.R_drewN | apply Kd.R_drew)); exact HO_8.out) hb)
                            have n1_ := Aside0.mk (Kd.R_below (by (with_reducible repeat (first | apply Kd.R_alloc | apply Kd.R_drewN | apply Kd.R_drew)); exact HO_10.out) hb)
                            have n2_ := Aside0.mk (Kd.R_below (by (with_reducible repeat (first | apply Kd.R_alloc | apply Kd.R_drewN | apply Kd.R_drew)); exact HO355.out) hb)
                            have n3_ := Aside0.mk (Kd.R_lower ho0 (below_size (by repeat (first | (with_reducible first | exact HB.out | apply below_alloc | apply pw_below_drewN | apply below_drew1) | exact HB.out))))
                            have n4_ := Aside0.mk (Kd.C_below (by repeat (first | (with_reducible exact HR352.out) | (with_reducible refine Kd.C_alloc ?_ _) | (with_reducible refine Kd.C_drewN ?_ _) | (with_reducible refine Kd.C_drew ?_) | exact HR352.out)) hb)
                            have n5_ := Aside0.mk (below_step (by repeat (first | (with_reducible first | exact HB.out | apply below_alloc | apply pw_below_drewN | apply below_drew1) | exact HB.out)) hb)
                            clear HO_8
                            clear HO_10
                            clear HO355
                            clear HR352
                            clear HB
                            have HO_8 := n0_
                            have HO_10 := n1_
                            have HO355 := n2_
                            have HO360 := n3_
                            have HR352 := n4_
                            have HB := n5_
                            clear n0_ n1_ n2_ n3_ n4_ n5_
                            (try clear hb)
                            (try clear hb2)
                            (try clear hk)
                            (try clear hi)
                            (try clear ho0)
                            refine hK.out _ _ trivial (fun hHeld => ?_)
                            clear hK K
                            refine norm_ (a' := ?_) ?_ ?_
                            rotate_left
                            · show Act.put _ (some 59) _ = _
                              simp only [Act.put, List.setIfInBounds_toArray, List.set_cons_zero, List.set_cons_succ, i64_w, i32_w]
                              rfl
                            refine pure_ (i := 8) (N := some 51) (v := ?_) (a' := ?_) #[true, true, true, true, true, true, true, true, true, false, false, false, false, false, false] rfl rfl (any_of HT_.out (by kernel_rfl)) (fun _ _ _ h => h) (Or.inl ⟨by rfl, ?_⟩) ?_ ?_
                            rotate_left
                            · intro w'
                              go_simp
                              with_reducible rfl
                            rotate_left
                            · simp only [Act.put, List.setIfInBounds_toArray, List.set_cons_zero, List.set_cons_succ, i64_w, i32_w]
                              rfl
                            refine pure_ (i := 9) (N := some 60) (v := ?_) (a' := ?_) #[true, true, true, true, true, true, true, true, true, true, false, false, false, false, false] rfl rfl (any_of HT_.out (by kernel_rfl)) (fun _ _ _ h => h) (Or.inl ⟨by rfl, ?_⟩) ?_ ?_
                            rotate_left
                            · intro w'
                              go_simp
                              with_reducible rfl
                            rotate_left
                            · simp only [Act.put, List.setIfInBounds_toArray, List.set_cons_zero, List.set_cons_succ, i64_w, i32_w]
                              rfl
                            refine pure_ (i := 10) (N := some 61) (v := ?_) (a' := ?_) #[true, true, true, true, true, true, true, true, true, true, true, false, false, false, false] rfl rfl (any_of HT_.out (by kernel_rfl)) (fun _ _ _ h => h) (Or.inl ⟨by rfl, ?_⟩) ?_ ?_
                            rotate_left
                            · intro w'
                              go_simp
                              with_reducible rfl
                            rotate_left
                            · simp only [Act.put, List.setIfInBounds_toArray, List.set_cons_zero, List.set_cons_succ, i64_w, i32_w]
                              rfl
                            refine pure_ (i := 11) (N := some 62) (v := ?_) (a' := ?_) #[true, true, true, true, true, true, true, true, true, true, true, true, false, false, false] rfl rfl (any_of HT_.out (by kernel_rfl)) (fun _ _ _ h => h) (Or.inl ⟨by rfl, ?_⟩) ?_ ?_
                            rotate_left
                            · intro w'
                              go_simp
                              with_reducible rfl
                            rotate_left
                            · simp only [Act.put, List.setIfInBounds_toArray, List.set_cons_zero, List.set_cons_succ, i64_w, i32_w]
                              rfl
                            refine pure_ (i := 12) (N := some 12) (v := ?_) (a' := ?_) #[true, true, true, true, true, true, true, true, true, true, true, true, true, false, false] rfl rfl (any_of HT_.out (by kernel_rfl)) (fun _ _ _ h => h) (Or.inl ⟨by rfl, ?_⟩) ?_ ?_
                            rotate_left
                            · intro w'
                              go_simp
                              with_reducible rfl
                            rotate_left
                            · simp only [Act.put, List.setIfInBounds_toArray, List.set_cons_zero, List.set_cons_succ, i64_w, i32_w]
                              rfl
                            refine pure_ (i := 13) (N := some 13) (v := ?_) (a' := ?_) #[true, true, true, true, true, true, true, true, true, true, true, true, true, true, false] rfl rfl (any_of HT_.out (by kernel_rfl)) (fun _ _ _ h => h) (Or.inl ⟨by rfl, ?_⟩) ?_ ?_
                            rotate_left
                            · intro w'
                              go_simp
                              with_reducible rfl
                            rotate_left
                            · simp only [Act.put, List.setIfInBounds_toArray, List.set_cons_zero, List.set_cons_succ, i64_w, i32_w]
                              rfl
                            refine pure_ (i := 14) (N := some 14) (v := ?_) (a' := ?_) #[true, true, true, true, true, true, true, true, true, true, true, true, true, true, true] rfl rfl (any_of HT_.out (by kernel_rfl)) (fun _ _ _ h => h) (Or.inl ⟨by rfl, ?_⟩) ?_ ?_
                            rotate_left
                            · intro w'
                              go_simp
                              with_reducible rfl
                            rotate_left
                            · simp only [Act.put, List.setIfInBounds_toArray, List.set_cons_zero, List.set_cons_succ, i64_w, i32_w]
                              rfl
                            refine done_ (done_of HT_.out (by kernel_rfl)) ?_
                            have q44 : (a2 : Int) ≤ ((t339.length : Int) : Int) := of_decide_eq_true (by first | (with_reducible assumption) | assumption)
                            obtain ⟨i044, hi044, _, hsz44, _⟩ := info_parts info5
                            have hroom44 : t339.length ≤ co36 := (Kd.R_reads' HO_10.out).2.1
                            have hC44 : Kd.C (Kd.int .u8) _ Ao36 t339.length t339 := (Kd.R_reads' HO_10.out).2.2
                            have q044 : (0 : Int) ≤ (a2 : Int) := of_decide_eq_true (by first | (with_reducible assumption) | assumption)
                            have hcut44 := cut_from (P := Try.prog) 28 5 .i64 Try.underlying28 hi044 1 hsz44 Ao36 t339.length co36 a2 q044 q44
                            have hr44 := Kd.C_drop (m := (a2 : Int).toNat) (c := co36) hC44 (by omega) hroom44
                            obtain ⟨A44, hA44⟩ : ∃ A1, A1 = (if co36 = (a2 : Int).toNat then Ao36 else (Ao36 : Option Addr).map (·.add ((a2 : Int).toNat * 1))) := ⟨_, rfl⟩
                            obtain ⟨c44, hc44⟩ : ∃ c1, c1 = co36 - (a2 : Int).toNat := ⟨_, rfl⟩
                            have hy44 : y361.length = t339.length - (a2 : Int).toNat := (by rw [Ny361.out, List.length_drop] <;> omega)
                            rw [show (t339).drop (a2 : Int).toNat = y361 from Ny361.out.symm] at hr44
                            replace hr44 : Kd.C (Kd.int .u8) _ A44 y361.length y361 := (by rw [hA44]; exact hr44)
                            rw [← hy44, ← hA44, ← hc44] at hcut44
                            have HR364 := Aside0.mk hr44
                            have HC364 := Aside0.mk (show y361.length ≤ c44 from by rw [hy44, hc44]; exact Nat.sub_le_sub_right hroom44 _)
                            clear hr44 hC44 hroom44 hi044 hsz44 hc44
                            have KY44 := Aside0.mk hy44
                            have KA44 := Aside0.mk hA44
                            clear hy44 hA44
                            have KL44 := Aside0.mk (show (a2 : Int).toNat ≤ t339.length from by omega)
                            replace q44 := eq_true q44
                            try go_wp2_with (first | ((with_reducible refine gate_callee (f := 19) rfl ?_); refine goesL_ (some 67) rfl rfl Try.func19 (by kernel_rfl) rfl #[.slice A44 y361.length c44] rfl (by (try simp only [List.map_toArray, List.map_cons, List.map_nil]); first | done | rfl | (simp only [List.length_drop, List.length_take]; rfl)) ?_; (with_reducible refine (utf_Decode.calls kj8 _ _ y361 t365 t366 t367 _ ?side1 ?side2 A28.out).mono ?_); (case side1 => repeat (first | exact (by repeat (first | (with_reducible exact HR364.out) | (with_reducible refine Kd.C_alloc ?_ _) | (with_reducible refine Kd.C_drewN ?_ _) | (with_reducible refine Kd.C_drew ?_) | exact HR364.out)) | (with_reducible refine Kd.C_alloc ?_ _) | (with_reducible refine Kd.C_drewN ?_ _) | (with_reducible refine Kd.C_drew ?_))); (case side2 => exact HC364.out); rintro e w45 ⟨v368, rfl, ho0, hb⟩; refine ⟨_, rfl, ?_⟩; have n0_ := Aside0.mk (Kd.R_below (by (with_reducible repeat (first | apply Kd.R_alloc | apply Kd.R_drewN | apply Kd.R_drew)); exact HO_8.out) hb); have n1_ := Aside0.mk (Kd.R_below (by (with_reducible repeat (first | apply Kd.R_alloc | apply Kd.R_drewN | apply Kd.R_drew)); exact HO_10.out) hb); have n2_ := Aside0.mk (Kd.R_below (by (with_reducible repeat (first | apply Kd.R_alloc | apply Kd.R_drewN | apply Kd.R_drew)); exact HO355.out) hb); have n3_ := Aside0.mk (Kd.R_elder' (by (with_reducible repeat (first | apply Kd.R_alloc | apply Kd.R_drewN | apply Kd.R_drew)); exact HO360.out) (Kd.R_base ho0) hb); have n4_ := Aside0.mk (Kd.R_lower (Kd.R_new' ho0 (Kd.R_lt (by (with_reducible repeat (first | apply Kd.R_alloc | apply Kd.R_drewN | apply Kd.R_drew)); exact HO360.out))) (below_size (by repeat (first | (with_reducible first | exact HB.out | apply below_alloc | apply pw_below_drewN | apply below_drew1) | exact HB.out)))); have n5_ := Aside0.mk (Kd.C_below (by repeat (first | (with_reducible exact HR352.out) | (with_reducible refine Kd.C_alloc ?_ _) | (with_reducible refine Kd.C_drewN ?_ _) | (with_reducible refine Kd.C_drew ?_) | exact HR352.out)) hb); have n6_ := Aside0.mk (Kd.C_below (by repeat (first | (with_reducible exact HR364.out) | (with_reducible refine Kd.C_alloc ?_ _) | (with_reducible refine Kd.C_drewN ?_ _) | (with_reducible refine Kd.C_drew ?_) | exact HR364.out)) hb); have n7_ := Aside0.mk (below_step (by repeat (first | (with_reducible first | exact HB.out | apply below_alloc | apply pw_below_drewN | apply below_drew1) | exact HB.out)) hb); clear HO_8; clear HO_10; clear HO355; clear HO360; clear HR352; clear HR364; clear HB; have HO_8 := n0_; have HO_10 := n1_; have HO355 := n2_; have HO360 := n3_; have HO369 := n4_; have HR352 := n5_; have HR364 := n6_; have HB := n7_; clear n0_ n1_ n2_ n3_ n4_ n5_ n6_ n7_; (try clear hb); (try clear hb2); (try clear hk); (try clear hi); (try clear ho0); obtain ⟨Ao46, co46, eo46⟩ := Kd.R_slice HO360.out; subst eo46))
                            go_ret
                            exact ⟨by first | rfl | (simp [errW_none, errW_some] <;> rfl) | (simp [*, errW_none, errW_some] <;> rfl), by repeat (first | (with_reducible first | exact HB.out | apply below_alloc | apply pw_below_drewN | apply below_drew1) | exact HB.out)⟩
                          · rw [if_neg c33] at H
                            have c33b0 : (t367 == 3) = false := beq_eq_false_iff_ne.mpr c33
                            have c33b1 : (t367 != 3) = true := bne_iff_ne.mpr c33
                            obtain rfl := Option.some.inj H
                            try go_wp2
                            have n0_ := Aside0.mk (Kd.R_drew HO_8.out)
                            have n1_ := Aside0.mk (Kd.R_drew HO_10.out)
                            have n2_ := Aside0.mk (below_drew1 HB.out)
                            clear HO_8
                            clear HO_10
                            clear HB
                            have HO_8 := n0_
                            have HO_10 := n1_
                            have HB := n2_
                            clear n0_ n1_ n2_
                            obtain ⟨Ao49, co49, eo49⟩ := Kd.R_slice HO_10.out
                            (first | subst eo49 | (injection eo49 with f1_ f2_ f3_; have f4_ := f1_.symm; have f5_ := f3_.symm; clear f1_ f2_ f3_; subst f4_; subst f5_))
                            have q48 : (a2 : Int) ≤ ((t339.length : Int) : Int) := of_decide_eq_true (by first | (with_reducible assumption) | assumption)
                            obtain ⟨i048, hi048, _, hsz48, _⟩ := info_parts info5
                            have hroom48 : t339.length ≤ co49 := (Kd.R_reads' HO_10.out).2.1
                            have hC48 : Kd.C (Kd.int .u8) _ Ao49 t339.length t339 := (Kd.R_reads' HO_10.out).2.2
                            have hcut48 := cut_to (P := Try.prog) 28 5 .i64 Try.underlying28 hi048 Ao49 t339.length co49 a2 (of_decide_eq_true (by first | (with_reducible assumption) | assumption)) q48 hroom48
                            have hr48 := Kd.C_take (m := (a2 : Int).toNat) hC48 (by omega)
                            have hy48 : y349.length = (a2 : Int).toNat := (by rw [Ny349.out, List.length_take]; omega)
                            rw [← Ny349.out] at hr48
                            rw [← hy48] at hcut48
                            have HR352 := Aside0.mk hr48
                            have HC352 := Aside0.mk (show y349.length ≤ co49 from by omega)
                            clear hr48 hC48 hroom48 hi048 hsz48
                            have KY48 := Aside0.mk hy48
                            clear hy48
                            have KL48 := Aside0.mk (show (a2 : Int).toNat ≤ t339.length from by omega)
                            replace q48 := eq_true q48
                            refine start_ (n := 15) (S := fun w' => True) (ds := []) #[false, false, false, false, false, false, false, false, false, false, false, false, false, false, false] (by kernel_rfl) rfl rfl trivial (fun hHeld => ?_); refine with_tabW exerguelaw01_UtfHeads.tab8 exerguelaw01_UtfHeads.bits8 (fun HT_ HW_ => ?_)
                            generalize wc.drew = w47 at HO_8 HO_10 HB HR352 hHeld ⊢
                            refine pure_ (i := 1) (N := some 53) (v := ?_) (a' := ?_) #[false, true, false, false, false, false, false, false, false, false, false, false, false, false, false] rfl rfl (any_of HT_.out (by kernel_rfl)) (fun _ _ _ h => h) (Or.inl ⟨by rfl, ?_⟩) ?_ ?_
                            rotate_left
                            · intro w'
                              go_simp
                              with_reducible rfl
                            rotate_left
                            · simp only [Act.put, List.setIfInBounds_toArray, List.set_cons_zero, List.set_cons_succ, i64_w, i32_w]
                              rfl
                            refine pure_ (i := 3) (N := some 55) (v := ?_) (a' := ?_) #[false, true, false, true, false, false, false, false, false, false, false, false, false, false, false] rfl rfl (any_of HT_.out (by kernel_rfl)) (fun _ _ _ h => h) (Or.inl ⟨by rfl, ?_⟩) ?_ ?_
                            rotate_left
                            · intro w'
                              go_simp
                              with_reducible rfl
                            rotate_left
                            · simp only [Act.put, List.setIfInBounds_toArray, List.set_cons_zero, List.set_cons_succ, i64_w, i32_w]
                              rfl
                            refine pure_ (i := 4) (N := some 56) (v := ?_) (a' := ?_) #[false, true, false, true, true, false, false, false, false, false, false, false, false, false, false] rfl rfl (any_of HT_.out (by kernel_rfl)) (fun _ _ _ h => h) (Or.inl ⟨by rfl, ?_⟩) ?_ ?_
                            rotate_left
                            · intro w'
                              go_simp
                              with_reducible rfl
                            rotate_left
                            · simp only [Act.put, List.setIfInBounds_toArray, List.set_cons_zero, List.set_cons_succ, i64_w, i32_w]
                              rfl
                            refine pure_ (i := 5) (N := some 57) (v := ?_) (a' := ?_) #[false, true, false, true, true, true, false, false, false, false, false, false, false, false, false] rfl rfl (any_of HT_.out (by kernel_rfl)) (fun _ _ _ h => h) (Or.inl ⟨by rfl, ?_⟩) ?_ ?_
                            rotate_left
                            · intro w'
                              go_simp
                              with_reducible rfl
                            rotate_left
                            · simp only [Act.put, List.setIfInBounds_toArray, List.set_cons_zero, List.set_cons_succ, i64_w, i32_w]
                              rfl
                            refine one_ (i := 0) (N := some 52) #[true, true, false, true, true, true, false, false, false, false, false, false, false, false, false] rfl rfl (one_of HT_.out (by kernel_rfl)) (by decide) (fun K hK => ?_)
                            refine Kd.R_lit_step (Kd.int .u8) _ 5 ?hg (N := 52) ?hd (xs := ([] : List Int)) (inner := []) (ok := fun _ => True) (okp := fun _ => True) ?hr ?hp (fun _ hk => hk) trivial (Below.refl _ _) (Nat.le_refl _) (by simp) ?_; (case hd => rfl); (case hg => rfl); (case hr => first | (go_simp; done) | (go_simp; rfl)); (case hp => exact (Reps.none _ _))
                            intro v344 w50 ho51 hb hg_ hnew_
                            clear hg_ hnew_
                            (first | rw [← Ny343.out] at ho51 | (simp only [Int.reduceToNat] at ho51; rw [← Ny343.out] at ho51))
                            have n0_ := Aside0.mk (Kd.R_elder' (by (with_reducible repeat (first | apply Kd.R_alloc | apply Kd.R_drewN | apply Kd.R_drew)); exact HO_8.out) (Kd.R_base ho51) hb)
                            have n1_ := Aside0.mk (Kd.R_elder' (by (with_reducible repeat (first | apply Kd.R_alloc | apply Kd.R_drewN | apply Kd.R_drew)); exact HO_10.out) (Kd.R_base ho51) hb)
                            have n2_ := Aside0.mk (Kd.R_lower (Kd.R_new' (Kd.R_new' ho51 (Kd.R_lt (by (with_reducible repeat (first | apply Kd.R_alloc | apply Kd.R_drewN | apply Kd.R_drew)); exact HO_8.out))) (Kd.R_lt (by (with_reducible repeat (first | apply Kd.R_alloc | apply Kd.R_drewN | apply Kd.R_drew)); exact HO_10.out))) (below_size (by repeat (first | (with_reducible first | exact HB.out | apply below_alloc | apply pw_below_drewN | apply below_drew1) | exact HB.out))))
                            have n3_ := Aside0.mk (Kd.C_below (by repeat (first | (with_reducible exact HR352.out) | (with_reducible refine Kd.C_alloc ?_ _) | (with_reducible refine Kd.C_drewN ?_ _) | (with_reducible refine Kd.C_drew ?_) | exact HR352.out)) hb)
                            have n4_ := Aside0.mk (below_step (by repeat (first | (with_reducible first | exact HB.out | apply below_alloc | apply pw_below_drewN | apply below_drew1) | exact HB.out)) hb)
                            clear HO_8
                            clear HO_10
                            clear HR352
                            clear HB
                            have HO_8 := n0_
                            have HO_10 := n1_
                            have HO345 := n2_
                            have HR352 := n3_
                            have HB := n4_
                            clear n0_ n1_ n2_ n3_ n4_
                            clear hb ho51
                            obtain ⟨Ao53, co53, eo53⟩ := Kd.R_slice HO_8.out
                            (first | subst eo53 | (injection eo53 with f1_ f2_ f3_; have f4_ := f1_.symm; have f5_ := f3_.symm; clear f1_ f2_ f3_; subst f4_; subst f5_))
                            refine hK.out _ _ trivial (fun hHeld => ?_)
                            clear hK K
                            refine norm_ (a' := ?_) ?_ ?_
                            rotate_left
                            · show Act.put _ (some 52) _ = _
                              simp only [Act.put, List.setIfInBounds_toArray, List.set_cons_zero, List.set_cons_succ, i64_w, i32_w]
                              rfl
                            refine one_ (i := 2) (N := some 54) #[true, true, true, true, true, true, false, false, false, false, false, false, false, false, false] rfl rfl (one_of HT_.out (by kernel_rfl)) (by decide) (fun K hK => ?_)
                            refine Kd.R_append_rows_step (Kd.int .u8) (w0 := w) w.heap.size (by rfl) (.tmp 52) (.tmp 53) 28 5 (.int .u8 0) 1 rfl Try.underlying28 info5 rfl (by decide) (by omega) v344 y343 t332 _ _ _ (fun k_ => some k_ ≠ (.slice Ao53 t332.length co53 : Value).ownBlock ∧ some k_ ≠ (.slice Ao49 t339.length co49 : Value).ownBlock) (fun _ => False) rfl rfl ?aO ?aR (fun _ _ h => h) (fun _ h => h.elim) ?aF ?aB ?aS ?aL ?_
                            (case aR => repeat (first | exact (Kd.R_reads' HO_8.out).2.2 | (with_reducible refine Kd.C_alloc ?_ _) | (with_reducible refine Kd.C_drewN ?_ _) | (with_reducible refine Kd.C_drew ?_)))
                            (case aB => exact (by repeat (first | (with_reducible first | exact HB.out | apply below_alloc | apply pw_below_drewN | apply below_drew1) | exact HB.out)))
                            (case aF => exact (fun k_ hk => ⟨Kd.fresh' (Kd.R_lt (by (with_reducible repeat (first | apply Kd.R_alloc | apply Kd.R_drewN | apply Kd.R_drew)); exact HO_8.out)) k_ hk, Kd.fresh' (Kd.R_lt (by (with_reducible repeat (first | apply Kd.R_alloc | apply Kd.R_drewN | apply Kd.R_drew)); exact HO_10.out)) k_ hk⟩))
                            (case aO => exact (by (with_reducible repeat (first | apply Kd.R_alloc | apply Kd.R_drewN | apply Kd.R_drew)); exact Kd.R_mono HO345.out (fun _ hk => ⟨hk.1.2, hk.2⟩)))
                            (case aS => exact (below_size (by repeat (first | (with_reducible first | exact HB.out | apply below_alloc | apply pw_below_drewN | apply below_drew1) | exact HB.out))))
                            (case aL => have := LMc21.out; omega)
                            intro v347 w52 ho hb hg hat
                            rw [← Ny346.out] at ho
                            have n0_ := Aside0.mk (Kd.R_after (ok := (fun k_ => some k_ ≠ (.slice Ao49 t339.length co49 : Value).ownBlock)) (by (with_reducible repeat (first | apply Kd.R_alloc | apply Kd.R_drewN | apply Kd.R_drew)); exact HO_8.out) hg hat)
                            have n1_ := Aside0.mk (Kd.R_after (ok := (fun k_ => some k_ ≠ (.slice Ao53 t332.length co53 : Value).ownBlock)) (by (with_reducible repeat (first | apply Kd.R_alloc | apply Kd.R_drewN | apply Kd.R_drew)); exact HO_10.out) hg hat)
                            have n2_ := Aside0.mk (hb)
                            have n3_ := Aside0.mk ((show Kd.C (Kd.int .u8) w52 Ao49 y349.length y349 from by rw [Ny349.out]; exact Kd.C_take (m := (a2 : Int).toNat) ((Kd.R_reads' (Kd.R_after (ok := (fun k_ => some k_ ≠ (.slice Ao53 t332.length co53 : Value).ownBlock)) (by (with_reducible repeat (first | apply Kd.R_alloc | apply Kd.R_drewN | apply Kd.R_drew)); exact HO_10.out) hg hat)).2.2) KL48.out))
                            have n4_ := Aside0.mk (ho)
                            clear HO_8
                            clear HO_10
                            clear HB
                            clear HR352
                            clear HO345
                            have HO_8 := n0_
                            have HO_10 := n1_
                            have HB := n2_
                            have HR352 := n3_
                            have HO348 := n4_
                            clear n0_ n1_ n2_ n3_ n4_
                            clear ho hb hg hat
                            refine hK.out _ _ trivial (fun hHeld => ?_)
                            clear hK K
                            refine norm_ (a' := ?_) ?_ ?_
                            rotate_left
                            · show Act.put _ (some 54) _ = _
                              simp only [Act.put, List.setIfInBounds_toArray, List.set_cons_zero, List.set_cons_succ, i64_w, i32_w]
                              rfl
                            refine one_ (i := 6) (N := some 58) #[true, true, true, true, true, true, true, false, false, false, false, false, false, false, false] rfl rfl (one_of HT_.out (by kernel_rfl)) (by decide) (fun K hK => ?_)
                            refine Kd.R_append_rows_step (Kd.int .u8) (w0 := w) w.heap.size (by rfl) (.tmp 54) (.tmp 57) 28 5 (.int .u8 0) 1 rfl Try.underlying28 info5 rfl (by decide) (by omega) v347 y346 y349 _ _ _ (fun k_ => some k_ ≠ (.slice Ao53 t332.length co53 : Value).ownBlock ∧ some k_ ≠ (.slice Ao49 t339.length co49 : Value).ownBlock) (fun _ => False) rfl rfl ?aO ?aR (fun _ _ h => h) (fun _ h => h.elim) ?aF ?aB ?aS ?aL ?_
                            (case aR => repeat (first | exact (by repeat (first | (with_reducible exact HR352.out) | (with_reducible refine Kd.C_alloc ?_ _) | (with_reducible refine Kd.C_drewN ?_ _) | (with_reducible refine Kd.C_drew ?_) | exact HR352.out)) | (with_reducible refine Kd.C_alloc ?_ _) | (with_reducible refine Kd.C_drewN ?_ _) | (with_reducible refine Kd.C_drew ?_)))
                            (case aB => exact (by repeat (first | (with_reducible first | exact HB.out | apply below_alloc | apply pw_below_drewN | apply below_drew1) | exact HB.out)))
                            (case aF => exact (fun k_ hk => ⟨Kd.fresh' (Kd.R_lt (by (with_reducible repeat (first | apply Kd.R_alloc | apply Kd.R_drewN | apply Kd.R_drew)); exact HO_8.out)) k_ hk, Kd.fresh' (Kd.R_lt (by (with_reducible repeat (first | apply Kd.R_alloc | apply Kd.R_drewN | apply Kd.R_drew)); exact HO_10.out)) k_ hk⟩))
                            (case aO => exact (by (with_reducible repeat (first | apply Kd.R_alloc | apply Kd.R_drewN | apply Kd.R_drew)); exact HO348.out))
                            (case aS => exact (below_size (by repeat (first | (with_reducible first | exact HB.out | apply below_alloc | apply pw_below_drewN | apply below_drew1) | exact HB.out))))
                            (case aL => have := LMc24.out; omega)
                            intro v354 w54 ho hb hg hat
                            rw [← Ny353.out] at ho
                            have n0_ := Aside0.mk (Kd.R_after (ok := (fun k_ => some k_ ≠ (.slice Ao49 t339.length co49 : Value).ownBlock)) (by (with_reducible repeat (first | apply Kd.R_alloc | apply Kd.R_drewN | apply Kd.R_drew)); exact HO_8.out) hg hat)
                            have n1_ := Aside0.mk (Kd.R_after (ok := (fun k_ => some k_ ≠ (.slice Ao53 t332.length co53 : Value).ownBlock)) (by (with_reducible repeat (first | apply Kd.R_alloc | apply Kd.R_drewN | apply Kd.R_drew)); exact HO_10.out) hg hat)
                            have n2_ := Aside0.mk (hb)
                            have n3_ := Aside0.mk ((show Kd.C (Kd.int .u8) w54 Ao49 y349.length y349 from by rw [Ny349.out]; exact Kd.C_take (m := (a2 : Int).toNat) ((Kd.R_reads' (Kd.R_after (ok := (fun k_ => some k_ ≠ (.slice Ao53 t332.length co53 : Value).ownBlock)) (by (with_reducible repeat (first | apply Kd.R_alloc | apply Kd.R_drewN | apply Kd.R_drew)); exact HO_10.out) hg hat)).2.2) KL48.out))
                            have n4_ := Aside0.mk (ho)
                            clear HO_8
                            clear HO_10
                            clear HB
                            clear HR352
                            clear HO348
                            have HO_8 := n0_
                            have HO_10 := n1_
                            have HB := n2_
                            have HR352 := n3_
                            have HO355 := n4_
                            clear n0_ n1_ n2_ n3_ n4_
                            clear ho hb hg hat
                            obtain ⟨Ao55, co55, eo55⟩ := Kd.R_slice HO355.out
                            (first | subst eo55 | (injection eo55 with f1_ f2_ f3_; have f4_ := f1_.symm; have f5_ := f3_.symm; clear f1_ f2_ f3_; subst f4_; subst f5_))
                            refine hK.out _ _ trivial (fun hHeld => ?_)
                            clear hK K
                            refine norm_ (a' := ?_) ?_ ?_
                            rotate_left
                            · show Act.put _ (some 58) _ = _
                              simp only [Act.put, List.setIfInBounds_toArray, List.set_cons_zero, List.set_cons_succ, i64_w, i32_w]
                              rfl
                            refine one_ (i := 7) (N := some 59) #[true, true, true, true, true, true, true, true, false, false, false, false, false, false, false] rfl rfl (one_of HT_.out (by kernel_rfl)) (by decide) (fun K hK => ?_)
                            refine goes_ Try.func19 (by kernel_rfl) rfl #[.slice Ao55 y353.length co55] (by rfl) rfl rfl (by (try simp only [List.map_toArray, List.map_cons, List.map_nil]); first | done | rfl | (simp only [List.length_drop, List.length_take]; rfl)) ?_
                            with_reducible refine (utf_Decode.calls kj8 _ _ y353 t356 t357 t358 _ ?side1 ?side2 A25.out).mono ?_
                            (case side1 => repeat (first | exact (Kd.R_reads' HO355.out).2.2 | (with_reducible refine Kd.C_alloc ?_ _) | (with_reducible refine Kd.C_drewN ?_ _) | (with_reducible refine Kd.C_drew ?_)))
                            (case side2 => exact (Kd.R_reads' HO355.out).2.1)
                            rintro e w56 ⟨v359, rfl, ho0, hb⟩
                            refine ⟨_, rfl, ?_⟩
                            have n0_ := Aside0.mk (Kd.R_below (by (with_reducible repeat (first | apply Kd.R_alloc | apply Kd.R_drewN | apply Kd.R_drew)); exact HO_8.out) hb)
                            have n1_ := Aside0.mk (Kd.R_below (by (with_reducible repeat (first | apply Kd.R_alloc | apply Kd.R_drewN | apply Kd.R_drew)); exact HO_10.out) hb)
                            have n2_ := Aside0.mk (Kd.R_below (by (with_reducible repeat (first | apply Kd.R_alloc | apply Kd.R_drewN | apply Kd.R_drew)); exact HO355.out) hb)
                            have n3_ := Aside0.mk (Kd.R_lower ho0 (below_size (by repeat (first | (with_reducible first | exact HB.out | apply below_alloc | apply pw_below_drewN | apply below_drew1) | exact HB.out))))
                            have n4_ := Aside0.mk (Kd.C_below (by repeat (first | (with_reducible exact HR352.out) | (with_reducible refine Kd.C_alloc ?_ _) | (with_reducible refine Kd.C_drewN ?_ _) | (with_reducible refine Kd.C_drew ?_) | exact HR352.out)) hb)
                            have n5_ := Aside0.mk (below_step (by repeat (first | (with_reducible first | exact HB.out | apply below_alloc | apply pw_below_drewN | apply below_drew1) | exact HB.out)) hb)
                            clear HO_8
                            clear HO_10
                            clear HO355
                            clear HR352
                            clear HB
                            have HO_8 := n0_
                            have HO_10 := n1_
                            have HO355 := n2_
                            have HO360 := n3_
                            have HR352 := n4_
                            have HB := n5_
                            clear n0_ n1_ n2_ n3_ n4_ n5_
                            (try clear hb)
                            (try clear hb2)
                            (try clear hk)
                            (try clear hi)
                            (try clear ho0)
                            refine hK.out _ _ trivial (fun hHeld => ?_)
                            clear hK K
                            refine norm_ (a' := ?_) ?_ ?_
                            rotate_left
                            · show Act.put _ (some 59) _ = _
                              simp only [Act.put, List.setIfInBounds_toArray, List.set_cons_zero, List.set_cons_succ, i64_w, i32_w]
                              rfl
                            refine pure_ (i := 8) (N := some 51) (v := ?_) (a' := ?_) #[true, true, true, true, true, true, true, true, true, false, false, false, false, false, false] rfl rfl (any_of HT_.out (by kernel_rfl)) (fun _ _ _ h => h) (Or.inl ⟨by rfl, ?_⟩) ?_ ?_
                            rotate_left
                            · intro w'
                              go_simp
                              with_reducible rfl
                            rotate_left
                            · simp only [Act.put, List.setIfInBounds_toArray, List.set_cons_zero, List.set_cons_succ, i64_w, i32_w]
                              rfl
                            refine pure_ (i := 9) (N := some 60) (v := ?_) (a' := ?_) #[true, true, true, true, true, true, true, true, true, true, false, false, false, false, false] rfl rfl (any_of HT_.out (by kernel_rfl)) (fun _ _ _ h => h) (Or.inl ⟨by rfl, ?_⟩) ?_ ?_
                            rotate_left
                            · intro w'
                              go_simp
                              with_reducible rfl
                            rotate_left
                            · simp only [Act.put, List.setIfInBounds_toArray, List.set_cons_zero, List.set_cons_succ, i64_w, i32_w]
                              rfl
                            refine pure_ (i := 10) (N := some 61) (v := ?_) (a' := ?_) #[true, true, true, true, true, true, true, true, true, true, true, false, false, false, false] rfl rfl (any_of HT_.out (by kernel_rfl)) (fun _ _ _ h => h) (Or.inl ⟨by rfl, ?_⟩) ?_ ?_
                            rotate_left
                            · intro w'
                              go_simp
                              with_reducible rfl
                            rotate_left
                            · simp only [Act.put, List.setIfInBounds_toArray, List.set_cons_zero, List.set_cons_succ, i64_w, i32_w]
                              rfl
                            refine pure_ (i := 11) (N := some 62) (v := ?_) (a' := ?_) #[true, true, true, true, true, true, true, true, true, true, true, true, false, false, false] rfl rfl (any_of HT_.out (by kernel_rfl)) (fun _ _ _ h => h) (Or.inl ⟨by rfl, ?_⟩) ?_ ?_
                            rotate_left
                            · intro w'
                              go_simp
                              with_reducible rfl
                            rotate_left
                            · simp only [Act.put, List.setIfInBounds_toArray, List.set_cons_zero, List.set_cons_succ, i64_w, i32_w]
                              rfl
                            refine pure_ (i := 12) (N := some 12) (v := ?_) (a' := ?_) #[true, true, true, true, true, true, true, true, true, true, true, true, true, false, false] rfl rfl (any_of HT_.out (by kernel_rfl)) (fun _ _ _ h => h) (Or.inl ⟨by rfl, ?_⟩) ?_ ?_
                            rotate_left
                            · intro w'
                              go_simp
                              with_reducible rfl
                            rotate_left
                            · simp only [Act.put, List.setIfInBounds_toArray, List.set_cons_zero, List.set_cons_succ, i64_w, i32_w]
                              rfl
                            refine pure_ (i := 13) (N := some 13) (v := ?_) (a' := ?_) #[true, true, true, true, true, true, true, true, true, true, true, true, true, true, false] rfl rfl (any_of HT_.out (by kernel_rfl)) (fun _ _ _ h => h) (Or.inl ⟨by rfl, ?_⟩) ?_ ?_
                            rotate_left
                            · intro w'
                              go_simp
                              with_reducible rfl
                            rotate_left
                            · simp only [Act.put, List.setIfInBounds_toArray, List.set_cons_zero, List.set_cons_succ, i64_w, i32_w]
                              rfl
                            refine pure_ (i := 14) (N := some 14) (v := ?_) (a' := ?_) #[true, true, true, true, true, true, true, true, true, true, true, true, true, true, true] rfl rfl (any_of HT_.out (by kernel_rfl)) (fun _ _ _ h => h) (Or.inl ⟨by rfl, ?_⟩) ?_ ?_
                            rotate_left
                            · intro w'
                              go_simp
                              with_reducible rfl
                            rotate_left
                            · simp only [Act.put, List.setIfInBounds_toArray, List.set_cons_zero, List.set_cons_succ, i64_w, i32_w]
                              rfl
                            refine done_ (done_of HT_.out (by kernel_rfl)) ?_
                            have q57 : (a2 : Int) ≤ ((t339.length : Int) : Int) := of_decide_eq_true (by first | (with_reducible assumption) | assumption)
                            obtain ⟨i057, hi057, _, hsz57, _⟩ := info_parts info5
                            have hroom57 : t339.length ≤ co49 := (Kd.R_reads' HO_10.out).2.1
                            have hC57 : Kd.C (Kd.int .u8) _ Ao49 t339.length t339 := (Kd.R_reads' HO_10.out).2.2
                            have q057 : (0 : Int) ≤ (a2 : Int) := of_decide_eq_true (by first | (with_reducible assumption) | assumption)
                            have hcut57 := cut_from (P := Try.prog) 28 5 .i64 Try.underlying28 hi057 1 hsz57 Ao49 t339.length co49 a2 q057 q57
                            have hr57 := Kd.C_drop (m := (a2 : Int).toNat) (c := co49) hC57 (by omega) hroom57
                            obtain ⟨A57, hA57⟩ : ∃ A1, A1 = (if co49 = (a2 : Int).toNat then Ao49 else (Ao49 : Option Addr).map (·.add ((a2 : Int).toNat * 1))) := ⟨_, rfl⟩
                            obtain ⟨c57, hc57⟩ : ∃ c1, c1 = co49 - (a2 : Int).toNat := ⟨_, rfl⟩
                            have hy57 : y361.length = t339.length - (a2 : Int).toNat := (by rw [Ny361.out, List.length_drop] <;> omega)
                            rw [show (t339).drop (a2 : Int).toNat = y361 from Ny361.out.symm] at hr57
                            replace hr57 : Kd.C (Kd.int .u8) _ A57 y361.length y361 := (by rw [hA57]; exact hr57)
                            rw [← hy57, ← hA57, ← hc57] at hcut57
                            have HR364 := Aside0.mk hr57
                            have HC364 := Aside0.mk (show y361.length ≤ c57 from by rw [hy57, hc57]; exact Nat.sub_le_sub_right hroom57 _)
                            clear hr57 hC57 hroom57 hi057 hsz57 hc57
                            have KY57 := Aside0.mk hy57
                            have KA57 := Aside0.mk hA57
                            clear hy57 hA57
                            have KL57 := Aside0.mk (show (a2 : Int).toNat ≤ t339.length from by omega)
                            replace q57 := eq_true q57
                            try go_wp2_with (first | ((with_reducible refine gate_callee (f := 19) rfl ?_); refine goesL_ (some 67) rfl rfl Try.func19 (by kernel_rfl) rfl #[.slice A57 y361.length c57] rfl (by (try simp only [List.map_toArray, List.map_cons, List.map_nil]); first | done | rfl | (simp only [List.length_drop, List.length_take]; rfl)) ?_; (with_reducible refine (utf_Decode.calls kj8 _ _ y361 t365 t366 t367 _ ?side1 ?side2 A28.out).mono ?_); (case side1 => repeat (first | exact (by repeat (first | (with_reducible exact HR364.out) | (with_reducible refine Kd.C_alloc ?_ _) | (with_reducible refine Kd.C_drewN ?_ _) | (with_reducible refine Kd.C_drew ?_) | exact HR364.out)) | (with_reducible refine Kd.C_alloc ?_ _) | (with_reducible refine Kd.C_drewN ?_ _) | (with_reducible refine Kd.C_drew ?_))); (case side2 => exact HC364.out); rintro e w58 ⟨v368, rfl, ho0, hb⟩; refine ⟨_, rfl, ?_⟩; have n0_ := Aside0.mk (Kd.R_below (by (with_reducible repeat (first | apply Kd.R_alloc | apply Kd.R_drewN | apply Kd.R_drew)); exact HO_8.out) hb); have n1_ := Aside0.mk (Kd.R_below (by (with_reducible repeat (first | apply Kd.R_alloc | apply Kd.R_drewN | apply Kd.R_drew)); exact HO_10.out) hb); have n2_ := Aside0.mk (Kd.R_below (by (with_reducible repeat (first | apply Kd.R_alloc | apply Kd.R_drewN | apply Kd.R_drew)); exact HO355.out) hb); have n3_ := Aside0.mk (Kd.R_elder' (by (with_reducible repeat (first | apply Kd.R_alloc | apply Kd.R_drewN | apply Kd.R_drew)); exact HO360.out) (Kd.R_base ho0) hb); have n4_ := Aside0.mk (Kd.R_lower (Kd.R_new' ho0 (Kd.R_lt (by (with_reducible repeat (first | apply Kd.R_alloc | apply Kd.R_drewN | apply Kd.R_drew)); exact HO360.out))) (below_size (by repeat (first | (with_reducible first | exact HB.out | apply below_alloc | apply pw_below_drewN | apply below_drew1) | exact HB.out)))); have n5_ := Aside0.mk (Kd.C_below (by repeat (first | (with_reducible exact HR352.out) | (with_reducible refine Kd.C_alloc ?_ _) | (with_reducible refine Kd.C_drewN ?_ _) | (with_reducible refine Kd.C_drew ?_) | exact HR352.out)) hb); have n6_ := Aside0.mk (Kd.C_below (by repeat (first | (with_reducible exact HR364.out) | (with_reducible refine Kd.C_alloc ?_ _) | (with_reducible refine Kd.C_drewN ?_ _) | (with_reducible refine Kd.C_drew ?_) | exact HR364.out)) hb); have n7_ := Aside0.mk (below_step (by repeat (first | (with_reducible first | exact HB.out | apply below_alloc | apply pw_below_drewN | apply below_drew1) | exact HB.out)) hb); clear HO_8; clear HO_10; clear HO355; clear HO360; clear HR352; clear HR364; clear HB; have HO_8 := n0_; have HO_10 := n1_; have HO355 := n2_; have HO360 := n3_; have HO369 := n4_; have HR352 := n5_; have HR364 := n6_; have HB := n7_; clear n0_ n1_ n2_ n3_ n4_ n5_ n6_ n7_; (try clear hb); (try clear hb2); (try clear hk); (try clear hi); (try clear ho0); obtain ⟨Ao59, co59, eo59⟩ := Kd.R_slice HO360.out; subst eo59))
                            go_ret
                            exact ⟨by first | rfl | (simp [errW_none, errW_some] <;> rfl) | (simp [*, errW_none, errW_some] <;> rfl), by repeat (first | (with_reducible first | exact HB.out | apply below_alloc | apply pw_below_drewN | apply below_drew1) | exact HB.out)⟩
                        · rw [if_neg c32] at H
                          have c32b0 : ((t356.length : Int) == 0) = false := beq_eq_false_iff_ne.mpr c32
                          have c32b1 : ((t356.length : Int) != 0) = true := bne_iff_ne.mpr c32
                          have c32b2 : ¬ (t356 = []) := fun h_ => c32 (by rw [h_]; rfl)
                          obtain rfl := Option.some.inj H
                          try go_wp2
                          have n0_ := Aside0.mk (Kd.R_drew HO_8.out)
                          have n1_ := Aside0.mk (Kd.R_drew HO_10.out)
                          have n2_ := Aside0.mk (below_drew1 HB.out)
                          clear HO_8
                          clear HO_10
                          clear HB
                          have HO_8 := n0_
                          have HO_10 := n1_
                          have HB := n2_
                          clear n0_ n1_ n2_
                          obtain ⟨Ao62, co62, eo62⟩ := Kd.R_slice HO_10.out
                          (first | subst eo62 | (injection eo62 with f1_ f2_ f3_; have f4_ := f1_.symm; have f5_ := f3_.symm; clear f1_ f2_ f3_; subst f4_; subst f5_))
                          have q61 : (a2 : Int) ≤ ((t339.length : Int) : Int) := of_decide_eq_true (by first | (with_reducible assumption) | assumption)
                          obtain ⟨i061, hi061, _, hsz61, _⟩ := info_parts info5
                          have hroom61 : t339.length ≤ co62 := (Kd.R_reads' HO_10.out).2.1
                          have hC61 : Kd.C (Kd.int .u8) _ Ao62 t339.length t339 := (Kd.R_reads' HO_10.out).2.2
                          have hcut61 := cut_to (P := Try.prog) 28 5 .i64 Try.underlying28 hi061 Ao62 t339.length co62 a2 (of_decide_eq_true (by first | (with_reducible assumption) | assumption)) q61 hroom61
                          have hr61 := Kd.C_take (m := (a2 : Int).toNat) hC61 (by omega)
                          have hy61 : y349.length = (a2 : Int).toNat := (by rw [Ny349.out, List.length_take]; omega)
                          rw [← Ny349.out] at hr61
                          rw [← hy61] at hcut61
                          have HR352 := Aside0.mk hr61
                          have HC352 := Aside0.mk (show y349.length ≤ co62 from by omega)
                          clear hr61 hC61 hroom61 hi061 hsz61
                          have KY61 := Aside0.mk hy61
                          clear hy61
                          have KL61 := Aside0.mk (show (a2 : Int).toNat ≤ t339.length from by omega)
                          replace q61 := eq_true q61
                          refine start_ (n := 15) (S := fun w' => True) (ds := []) #[false, false, false, false, false, false, false, false, false, false, false, false, false, false, false] (by kernel_rfl) rfl rfl trivial (fun hHeld => ?_); refine with_tabW exerguelaw01_UtfHeads.tab8 exerguelaw01_UtfHeads.bits8 (fun HT_ HW_ => ?_)
                          generalize wc.drew = w60 at HO_8 HO_10 HB HR352 hHeld ⊢
                          refine pure_ (i := 1) (N := some 53) (v := ?_) (a' := ?_) #[false, true, false, false, false, false, false, false, false, false, false, false, false, false, false] rfl rfl (any_of HT_.out (by kernel_rfl)) (fun _ _ _ h => h) (Or.inl ⟨by rfl, ?_⟩) ?_ ?_
                          rotate_left
                          · intro w'
                            go_simp
                            with_reducible rfl
                          rotate_left
                          · simp only [Act.put, List.setIfInBounds_toArray, List.set_cons_zero, List.set_cons_succ, i64_w, i32_w]
                            rfl
                          refine pure_ (i := 3) (N := some 55) (v := ?_) (a' := ?_) #[false, true, false, true, false, false, false, false, false, false, false, false, false, false, false] rfl rfl (any_of HT_.out (by kernel_rfl)) (fun _ _ _ h => h) (Or.inl ⟨by rfl, ?_⟩) ?_ ?_
                          rotate_left
                          · intro w'
                            go_simp
                            with_reducible rfl
                          rotate_left
                          · simp only [Act.put, List.setIfInBounds_toArray, List.set_cons_zero, List.set_cons_succ, i64_w, i32_w]
                            rfl
                          refine pure_ (i := 4) (N := some 56) (v := ?_) (a' := ?_) #[false, true, false, true, true, false, false, false, false, false, false, false, false, false, false] rfl rfl (any_of HT_.out (by kernel_rfl)) (fun _ _ _ h => h) (Or.inl ⟨by rfl, ?_⟩) ?_ ?_
                          rotate_left
                          · intro w'
                            go_simp
                            with_reducible rfl
                          rotate_left
                          · simp only [Act.put, List.setIfInBounds_toArray, List.set_cons_zero, List.set_cons_succ, i64_w, i32_w]
                            rfl
                          refine pure_ (i := 5) (N := some 57) (v := ?_) (a' := ?_) #[false, true, false, true, true, true, false, false, false, false, false, false, false, false, false] rfl rfl (any_of HT_.out (by kernel_rfl)) (fun _ _ _ h => h) (Or.inl ⟨by rfl, ?_⟩) ?_ ?_
                          rotate_left
                          · intro w'
                            go_simp
                            with_reducible rfl
                          rotate_left
                          · simp only [Act.put, List.setIfInBounds_toArray, List.set_cons_zero, List.set_cons_succ, i64_w, i32_w]
                            rfl
                          refine one_ (i := 0) (N := some 52) #[true, true, false, true, true, true, false, false, false, false, false, false, false, false, false] rfl rfl (one_of HT_.out (by kernel_rfl)) (by decide) (fun K hK => ?_)
                          refine Kd.R_lit_step (Kd.int .u8) _ 5 ?hg (N := 52) ?hd (xs := ([] : List Int)) (inner := []) (ok := fun _ => True) (okp := fun _ => True) ?hr ?hp (fun _ hk => hk) trivial (Below.refl _ _) (Nat.le_refl _) (by simp) ?_; (case hd => rfl); (case hg => rfl); (case hr => first | (go_simp; done) | (go_simp; rfl)); (case hp => exact (Reps.none _ _))
                          intro v344 w63 ho64 hb hg_ hnew_
                          clear hg_ hnew_
                          (first | rw [← Ny343.out] at ho64 | (simp only [Int.reduceToNat] at ho64; rw [← Ny343.out] at ho64))
                          have n0_ := Aside0.mk (Kd.R_elder' (by (with_reducible repeat (first | apply Kd.R_alloc | apply Kd.R_drewN | apply Kd.R_drew)); exact HO_8.out) (Kd.R_base ho64) hb)
                          have n1_ := Aside0.mk (Kd.R_elder' (by (with_reducible repeat (first | apply Kd.R_alloc | apply Kd.R_drewN | apply Kd.R_drew)); exact HO_10.out) (Kd.R_base ho64) hb)
                          have n2_ := Aside0.mk (Kd.R_lower (Kd.R_new' (Kd.R_new' ho64 (Kd.R_lt (by (with_reducible repeat (first | apply Kd.R_alloc | apply Kd.R_drewN | apply Kd.R_drew)); exact HO_8.out))) (Kd.R_lt (by (with_reducible repeat (first | apply Kd.R_alloc | apply Kd.R_drewN | apply Kd.R_drew)); exact HO_10.out))) (below_size (by repeat (first | (with_reducible first | exact HB.out | apply below_alloc | apply pw_below_drewN | apply below_drew1) | exact HB.out))))
                          have n3_ := Aside0.mk (Kd.C_below (by repeat (first | (with_reducible exact HR352.out) | (with_reducible refine Kd.C_alloc ?_ _) | (with_reducible refine Kd.C_drewN ?_ _) | (with_reducible refine Kd.C_drew ?_) | exact HR352.out)) hb)
                          have n4_ := Aside0.mk (below_step (by repeat (first | (with_reducible first | exact HB.out | apply below_alloc | apply pw_below_drewN | apply below_drew1) | exact HB.out)) hb)
                          clear HO_8
                          clear HO_10
                          clear HR352
                          clear HB
                          have HO_8 := n0_
                          have HO_10 := n1_
                          have HO345 := n2_
                          have HR352 := n3_
                          have HB := n4_
                          clear n0_ n1_ n2_ n3_ n4_
                          clear hb ho64
                          obtain ⟨Ao66, co66, eo66⟩ := Kd.R_slice HO_8.out
                          (first | subst eo66 | (injection eo66 with f1_ f2_ f3_; have f4_ := f1_.symm; have f5_ := f3_.symm; clear f1_ f2_ f3_; subst f4_; subst f5_))
                          refine hK.out _ _ trivial (fun hHeld => ?_)
                          clear hK K
                          refine norm_ (a' := ?_) ?_ ?_
                          rotate_left
                          · show Act.put _ (some 52) _ = _
                            simp only [Act.put, List.setIfInBounds_toArray, List.set_cons_zero, List.set_cons_succ, i64_w, i32_w]
                            rfl
                          refine one_ (i := 2) (N := some 54) #[true, true, true, true, true, true, false, false, false, false, false, false, false, false, false] rfl rfl (one_of HT_.out (by kernel_rfl)) (by decide) (fun K hK => ?_)
                          refine Kd.R_append_rows_step (Kd.int .u8) (w0 := w) w.heap.size (by rfl) (.tmp 52) (.tmp 53) 28 5 (.int .u8 0) 1 rfl Try.underlying28 info5 rfl (by decide) (by omega) v344 y343 t332 _ _ _ (fun k_ => some k_ ≠ (.slice Ao66 t332.length co66 : Value).ownBlock ∧ some k_ ≠ (.slice Ao62 t339.length co62 : Value).ownBlock) (fun _ => False) rfl rfl ?aO ?aR (fun _ _ h => h) (fun _ h => h.elim) ?aF ?aB ?aS ?aL ?_
                          (case aR => repeat (first | exact (Kd.R_reads' HO_8.out).2.2 | (with_reducible refine Kd.C_alloc ?_ _) | (with_reducible refine Kd.C_drewN ?_ _) | (with_reducible refine Kd.C_drew ?_)))
                          (case aB => exact (by repeat (first | (with_reducible first | exact HB.out | apply below_alloc | apply pw_below_drewN | apply below_drew1) | exact HB.out)))
                          (case aF => exact (fun k_ hk => ⟨Kd.fresh' (Kd.R_lt (by (with_reducible repeat (first | apply Kd.R_alloc | apply Kd.R_drewN | apply Kd.R_drew)); exact HO_8.out)) k_ hk, Kd.fresh' (Kd.R_lt (by (with_reducible repeat (first | apply Kd.R_alloc | apply Kd.R_drewN | apply Kd.R_drew)); exact HO_10.out)) k_ hk⟩))
                          (case aO => exact (by (with_reducible repeat (first | apply Kd.R_alloc | apply Kd.R_drewN | apply Kd.R_drew)); exact Kd.R_mono HO345.out (fun _ hk => ⟨hk.1.2, hk.2⟩)))
                          (case aS => exact (below_size (by repeat (first | (with_reducible first | exact HB.out | apply below_alloc | apply pw_below_drewN | apply below_drew1) | exact HB.out))))
                          (case aL => have := LMc21.out; omega)
                          intro v347 w65 ho hb hg hat
                          rw [← Ny346.out] at ho
                          have n0_ := Aside0.mk (Kd.R_after (ok := (fun k_ => some k_ ≠ (.slice Ao62 t339.length co62 : Value).ownBlock)) (by (with_reducible repeat (first | apply Kd.R_alloc | apply Kd.R_drewN | apply Kd.R_drew)); exact HO_8.out) hg hat)
                          have n1_ := Aside0.mk (Kd.R_after (ok := (fun k_ => some k_ ≠ (.slice Ao66 t332.length co66 : Value).ownBlock)) (by (with_reducible repeat (first | apply Kd.R_alloc | apply Kd.R_drewN | apply Kd.R_drew)); exact HO_10.out) hg hat)
                          have n2_ := Aside0.mk (hb)
                          have n3_ := Aside0.mk ((show Kd.C (Kd.int .u8) w65 Ao62 y349.length y349 from by rw [Ny349.out]; exact Kd.C_take (m := (a2 : Int).toNat) ((Kd.R_reads' (Kd.R_after (ok := (fun k_ => some k_ ≠ (.slice Ao66 t332.length co66 : Value).ownBlock)) (by (with_reducible repeat (first | apply Kd.R_alloc | apply Kd.R_drewN | apply Kd.R_drew)); exact HO_10.out) hg hat)).2.2) KL61.out))
                          have n4_ := Aside0.mk (ho)
                          clear HO_8
                          clear HO_10
                          clear HB
                          clear HR352
                          clear HO345
                          have HO_8 := n0_
                          have HO_10 := n1_
                          have HB := n2_
                          have HR352 := n3_
                          have HO348 := n4_
                          clear n0_ n1_ n2_ n3_ n4_
                          clear ho hb hg hat
                          refine hK.out _ _ trivial (fun hHeld => ?_)
                          clear hK K
                          refine norm_ (a' := ?_) ?_ ?_
                          rotate_left
                          · show Act.put _ (some 54) _ = _
                            simp only [Act.put, List.setIfInBounds_toArray, List.set_cons_zero, List.set_cons_succ, i64_w, i32_w]
                            rfl
                          refine one_ (i := 6) (N := some 58) #[true, true, true, true, true, true, true, false, false, false, false, false, false, false, false] rfl rfl (one_of HT_.out (by kernel_rfl)) (by decide) (fun K hK => ?_)
                          refine Kd.R_append_rows_step (Kd.int .u8) (w0 := w) w.heap.size (by rfl) (.tmp 54) (.tmp 57) 28 5 (.int .u8 0) 1 rfl Try.underlying28 info5 rfl (by decide) (by omega) v347 y346 y349 _ _ _ (fun k_ => some k_ ≠ (.slice Ao66 t332.length co66 : Value).ownBlock ∧ some k_ ≠ (.slice Ao62 t339.length co62 : Value).ownBlock) (fun _ => False) rfl rfl ?aO ?aR (fun _ _ h => h) (fun _ h => h.elim) ?aF ?aB ?aS ?aL ?_
                          (case aR => repeat (first | exact (by repeat (first | (with_reducible exact HR352.out) | (with_reducible refine Kd.C_alloc ?_ _) | (with_reducible refine Kd.C_drewN ?_ _) | (with_reducible refine Kd.C_drew ?_) | exact HR352.out)) | (with_reducible refine Kd.C_alloc ?_ _) | (with_reducible refine Kd.C_drewN ?_ _) | (with_reducible refine Kd.C_drew ?_)))
                          (case aB => exact (by repeat (first | (with_reducible first | exact HB.out | apply below_alloc | apply pw_below_drewN | apply below_drew1) | exact HB.out)))
                          (case aF => exact (fun k_ hk => ⟨Kd.fresh' (Kd.R_lt (by (with_reducible repeat (first | apply Kd.R_alloc | apply Kd.R_drewN | apply Kd.R_drew)); exact HO_8.out)) k_ hk, Kd.fresh' (Kd.R_lt (by (with_reducible repeat (first | apply Kd.R_alloc | apply Kd.R_drewN | apply Kd.R_drew)); exact HO_10.out)) k_ hk⟩))
                          (case aO => exact (by (with_reducible repeat (first | apply Kd.R_alloc | apply Kd.R_drewN | apply Kd.R_drew)); exact HO348.out))
                          (case aS => exact (below_size (by repeat (first | (with_reducible first | exact HB.out | apply below_alloc | apply pw_below_drewN | apply below_drew1) | exact HB.out))))
                          (case aL => have := LMc24.out; omega)
                          intro v354 w67 ho hb hg hat
                          rw [← Ny353.out] at ho
                          have n0_ := Aside0.mk (Kd.R_after (ok := (fun k_ => some k_ ≠ (.slice Ao62 t339.length co62 : Value).ownBlock)) (by (with_reducible repeat (first | apply Kd.R_alloc | apply Kd.R_drewN | apply Kd.R_drew)); exact HO_8.out) hg hat)
                          have n1_ := Aside0.mk (Kd.R_after (ok := (fun k_ => some k_ ≠ (.slice Ao66 t332.length co66 : Value).ownBlock)) (by (with_reducible repeat (first | apply Kd.R_alloc | apply Kd.R_drewN | apply Kd.R_drew)); exact HO_10.out) hg hat)
                          have n2_ := Aside0.mk (hb)
                          have n3_ := Aside0.mk ((show Kd.C (Kd.int .u8) w67 Ao62 y349.length y349 from by rw [Ny349.out]; exact Kd.C_take (m := (a2 : Int).toNat) ((Kd.R_reads' (Kd.R_after (ok := (fun k_ => some k_ ≠ (.slice Ao66 t332.length co66 : Value).ownBlock)) (by (with_reducible repeat (first | apply Kd.R_alloc | apply Kd.R_drewN | apply Kd.R_drew)); exact HO_10.out) hg hat)).2.2) KL61.out))
                          have n4_ := Aside0.mk (ho)
                          clear HO_8
                          clear HO_10
                          clear HB
                          clear HR352
                          clear HO348
                          have HO_8 := n0_
                          have HO_10 := n1_
                          have HB := n2_
                          have HR352 := n3_
                          have HO355 := n4_
                          clear n0_ n1_ n2_ n3_ n4_
                          clear ho hb hg hat
                          obtain ⟨Ao68, co68, eo68⟩ := Kd.R_slice HO355.out
                          (first | subst eo68 | (injection eo68 with f1_ f2_ f3_; have f4_ := f1_.symm; have f5_ := f3_.symm; clear f1_ f2_ f3_; subst f4_; subst f5_))
                          refine hK.out _ _ trivial (fun hHeld => ?_)
                          clear hK K
                          refine norm_ (a' := ?_) ?_ ?_
                          rotate_left
                          · show Act.put _ (some 58) _ = _
                            simp only [Act.put, List.setIfInBounds_toArray, List.set_cons_zero, List.set_cons_succ, i64_w, i32_w]
                            rfl
                          refine one_ (i := 7) (N := some 59) #[true, true, true, true, true, true, true, true, false, false, false, false, false, false, false] rfl rfl (one_of HT_.out (by kernel_rfl)) (by decide) (fun K hK => ?_)
                          refine goes_ Try.func19 (by kernel_rfl) rfl #[.slice Ao68 y353.length co68] (by rfl) rfl rfl (by (try simp only [List.map_toArray, List.map_cons, List.map_nil]); first | done | rfl | (simp only [List.length_drop, List.length_take]; rfl)) ?_
                          with_reducible refine (utf_Decode.calls kj8 _ _ y353 t356 t357 t358 _ ?side1 ?side2 A25.out).mono ?_
                          (case side1 => repeat (first | exact (Kd.R_reads' HO355.out).2.2 | (with_reducible refine Kd.C_alloc ?_ _) | (with_reducible refine Kd.C_drewN ?_ _) | (with_reducible refine Kd.C_drew ?_)))
                          (case side2 => exact (Kd.R_reads' HO355.out).2.1)
                          rintro e w69 ⟨v359, rfl, ho0, hb⟩
                          refine ⟨_, rfl, ?_⟩
                          have n0_ := Aside0.mk (Kd.R_below (by (with_reducible repeat (first | apply Kd.R_alloc | apply Kd.R_drewN | apply Kd.R_drew)); exact HO_8.out) hb)
                          have n1_ := Aside0.mk (Kd.R_below (by (with_reducible repeat (first | apply Kd.R_alloc | apply Kd.R_drewN | apply Kd.R_drew)); exact HO_10.out) hb)
                          have n2_ := Aside0.mk (Kd.R_below (by (with_reducible repeat (first | apply Kd.R_alloc | apply Kd.R_drewN | apply Kd.R_drew)); exact HO355.out) hb)
                          have n3_ := Aside0.mk (Kd.R_lower ho0 (below_size (by repeat (first | (with_reducible first | exact HB.out | apply below_alloc | apply pw_below_drewN | apply below_drew1) | exact HB.out))))
                          have n4_ := Aside0.mk (Kd.C_below (by repeat (first | (with_reducible exact HR352.out) | (with_reducible refine Kd.C_alloc ?_ _) | (with_reducible refine Kd.C_drewN ?_ _) | (with_reducible refine Kd.C_drew ?_) | exact HR352.out)) hb)
                          have n5_ := Aside0.mk (below_step (by repeat (first | (with_reducible first | exact HB.out | apply below_alloc | apply pw_below_drewN | apply below_drew1) | exact HB.out)) hb)
                          clear HO_8
                          clear HO_10
                          clear HO355
                          clear HR352
                          clear HB
                          have HO_8 := n0_
                          have HO_10 := n1_
                          have HO355 := n2_
                          have HO360 := n3_
                          have HR352 := n4_
                          have HB := n5_
                          clear n0_ n1_ n2_ n3_ n4_ n5_
                          (try clear hb)
                          (try clear hb2)
                          (try clear hk)
                          (try clear hi)
                          (try clear ho0)
                          refine hK.out _ _ trivial (fun hHeld => ?_)
                          clear hK K
                          refine norm_ (a' := ?_) ?_ ?_
                          rotate_left
                          · show Act.put _ (some 59) _ = _
                            simp only [Act.put, List.setIfInBounds_toArray, List.set_cons_zero, List.set_cons_succ, i64_w, i32_w]
                            rfl
                          refine pure_ (i := 8) (N := some 51) (v := ?_) (a' := ?_) #[true, true, true, true, true, true, true, true, true, false, false, false, false, false, false] rfl rfl (any_of HT_.out (by kernel_rfl)) (fun _ _ _ h => h) (Or.inl ⟨by rfl, ?_⟩) ?_ ?_
                          rotate_left
                          · intro w'
                            go_simp
                            with_reducible rfl
                          rotate_left
                          · simp only [Act.put, List.setIfInBounds_toArray, List.set_cons_zero, List.set_cons_succ, i64_w, i32_w]
                            rfl
                          refine pure_ (i := 9) (N := some 60) (v := ?_) (a' := ?_) #[true, true, true, true, true, true, true, true, true, true, false, false, false, false, false] rfl rfl (any_of HT_.out (by kernel_rfl)) (fun _ _ _ h => h) (Or.inl ⟨by rfl, ?_⟩) ?_ ?_
                          rotate_left
                          · intro w'
                            go_simp
                            with_reducible rfl
                          rotate_left
                          · simp only [Act.put, List.setIfInBounds_toArray, List.set_cons_zero, List.set_cons_succ, i64_w, i32_w]
                            rfl
                          refine pure_ (i := 10) (N := some 61) (v := ?_) (a' := ?_) #[true, true, true, true, true, true, true, true, true, true, true, false, false, false, false] rfl rfl (any_of HT_.out (by kernel_rfl)) (fun _ _ _ h => h) (Or.inl ⟨by rfl, ?_⟩) ?_ ?_
                          rotate_left
                          · intro w'
                            go_simp
                            with_reducible rfl
                          rotate_left
                          · simp only [Act.put, List.setIfInBounds_toArray, List.set_cons_zero, List.set_cons_succ, i64_w, i32_w]
                            rfl
                          refine pure_ (i := 11) (N := some 62) (v := ?_) (a' := ?_) #[true, true, true, true, true, true, true, true, true, true, true, true, false, false, false] rfl rfl (any_of HT_.out (by kernel_rfl)) (fun _ _ _ h => h) (Or.inl ⟨by rfl, ?_⟩) ?_ ?_
                          rotate_left
                          · intro w'
                            go_simp
                            with_reducible rfl
                          rotate_left
                          · simp only [Act.put, List.setIfInBounds_toArray, List.set_cons_zero, List.set_cons_succ, i64_w, i32_w]
                            rfl
                          refine pure_ (i := 12) (N := some 12) (v := ?_) (a' := ?_) #[true, true, true, true, true, true, true, true, true, true, true, true, true, false, false] rfl rfl (any_of HT_.out (by kernel_rfl)) (fun _ _ _ h => h) (Or.inl ⟨by rfl, ?_⟩) ?_ ?_
                          rotate_left
                          · intro w'
                            go_simp
                            with_reducible rfl
                          rotate_left
                          · simp only [Act.put, List.setIfInBounds_toArray, List.set_cons_zero, List.set_cons_succ, i64_w, i32_w]
                            rfl
                          refine pure_ (i := 13) (N := some 13) (v := ?_) (a' := ?_) #[true, true, true, true, true, true, true, true, true, true, true, true, true, true, false] rfl rfl (any_of HT_.out (by kernel_rfl)) (fun _ _ _ h => h) (Or.inl ⟨by rfl, ?_⟩) ?_ ?_
                          rotate_left
                          · intro w'
                            go_simp
                            with_reducible rfl
                          rotate_left
                          · simp only [Act.put, List.setIfInBounds_toArray, List.set_cons_zero, List.set_cons_succ, i64_w, i32_w]
                            rfl
                          refine pure_ (i := 14) (N := some 14) (v := ?_) (a' := ?_) #[true, true, true, true, true, true, true, true, true, true, true, true, true, true, true] rfl rfl (any_of HT_.out (by kernel_rfl)) (fun _ _ _ h => h) (Or.inl ⟨by rfl, ?_⟩) ?_ ?_
                          rotate_left
                          · intro w'
                            go_simp
                            with_reducible rfl
                          rotate_left
                          · simp only [Act.put, List.setIfInBounds_toArray, List.set_cons_zero, List.set_cons_succ, i64_w, i32_w]
                            rfl
                          refine done_ (done_of HT_.out (by kernel_rfl)) ?_
                          have q70 : (a2 : Int) ≤ ((t339.length : Int) : Int) := of_decide_eq_true (by first | (with_reducible assumption) | assumption)
                          obtain ⟨i070, hi070, _, hsz70, _⟩ := info_parts info5
                          have hroom70 : t339.length ≤ co62 := (Kd.R_reads' HO_10.out).2.1
                          have hC70 : Kd.C (Kd.int .u8) _ Ao62 t339.length t339 := (Kd.R_reads' HO_10.out).2.2
                          have q070 : (0 : Int) ≤ (a2 : Int) := of_decide_eq_true (by first | (with_reducible assumption) | assumption)
                          have hcut70 := cut_from (P := Try.prog) 28 5 .i64 Try.underlying28 hi070 1 hsz70 Ao62 t339.length co62 a2 q070 q70
                          have hr70 := Kd.C_drop (m := (a2 : Int).toNat) (c := co62) hC70 (by omega) hroom70
                          obtain ⟨A70, hA70⟩ : ∃ A1, A1 = (if co62 = (a2 : Int).toNat then Ao62 else (Ao62 : Option Addr).map (·.add ((a2 : Int).toNat * 1))) := ⟨_, rfl⟩
                          obtain ⟨c70, hc70⟩ : ∃ c1, c1 = co62 - (a2 : Int).toNat := ⟨_, rfl⟩
                          have hy70 : y361.length = t339.length - (a2 : Int).toNat := (by rw [Ny361.out, List.length_drop] <;> omega)
                          rw [show (t339).drop (a2 : Int).toNat = y361 from Ny361.out.symm] at hr70
                          replace hr70 : Kd.C (Kd.int .u8) _ A70 y361.length y361 := (by rw [hA70]; exact hr70)
                          rw [← hy70, ← hA70, ← hc70] at hcut70
                          have HR364 := Aside0.mk hr70
                          have HC364 := Aside0.mk (show y361.length ≤ c70 from by rw [hy70, hc70]; exact Nat.sub_le_sub_right hroom70 _)
                          clear hr70 hC70 hroom70 hi070 hsz70 hc70
                          have KY70 := Aside0.mk hy70
                          have KA70 := Aside0.mk hA70
                          clear hy70 hA70
                          have KL70 := Aside0.mk (show (a2 : Int).toNat ≤ t339.length from by omega)
                          replace q70 := eq_true q70
                          try go_wp2_with (first | ((with_reducible refine gate_callee (f := 19) rfl ?_); refine goesL_ (some 67) rfl rfl Try.func19 (by kernel_rfl) rfl #[.slice A70 y361.length c70] rfl (by (try simp only [List.map_toArray, List.map_cons, List.map_nil]); first | done | rfl | (simp only [List.length_drop, List.length_take]; rfl)) ?_; (with_reducible refine (utf_Decode.calls kj8 _ _ y361 t365 t366 t367 _ ?side1 ?side2 A28.out).mono ?_); (case side1 => repeat (first | exact (by repeat (first | (with_reducible exact HR364.out) | (with_reducible refine Kd.C_alloc ?_ _) | (with_reducible refine Kd.C_drewN ?_ _) | (with_reducible refine Kd.C_drew ?_) | exact HR364.out)) | (with_reducible refine Kd.C_alloc ?_ _) | (with_reducible refine Kd.C_drewN ?_ _) | (with_reducible refine Kd.C_drew ?_))); (case side2 => exact HC364.out); rintro e w71 ⟨v368, rfl, ho0, hb⟩; refine ⟨_, rfl, ?_⟩; have n0_ := Aside0.mk (Kd.R_below (by (with_reducible repeat (first | apply Kd.R_alloc | apply Kd.R_drewN | apply Kd.R_drew)); exact HO_8.out) hb); have n1_ := Aside0.mk (Kd.R_below (by (with_reducible repeat (first | apply Kd.R_alloc | apply Kd.R_drewN | apply Kd.R_drew)); exact HO_10.out) hb); have n2_ := Aside0.mk (Kd.R_below (by (with_reducible repeat (first | apply Kd.R_alloc | apply Kd.R_drewN | apply Kd.R_drew)); exact HO355.out) hb); have n3_ := Aside0.mk (Kd.R_elder' (by (with_reducible repeat (first | apply Kd.R_alloc | apply Kd.R_drewN | apply Kd.R_drew)); exact HO360.out) (Kd.R_base ho0) hb); have n4_ := Aside0.mk (Kd.R_lower (Kd.R_new' ho0 (Kd.R_lt (by (with_reducible repeat (first | apply Kd.R_alloc | apply Kd.R_drewN | apply Kd.R_drew)); exact HO360.out))) (below_size (by repeat (first | (with_reducible first | exact HB.out | apply below_alloc | apply pw_below_drewN | apply below_drew1) | exact HB.out)))); have n5_ := Aside0.mk (Kd.C_below (by repeat (first | (with_reducible exact HR352.out) | (with_reducible refine Kd.C_alloc ?_ _) | (with_reducible refine Kd.C_drewN ?_ _) | (with_reducible refine Kd.C_drew ?_) | exact HR352.out)) hb); have n6_ := Aside0.mk (Kd.C_below (by repeat (first | (with_reducible exact HR364.out) | (with_reducible refine Kd.C_alloc ?_ _) | (with_reducible refine Kd.C_drewN ?_ _) | (with_reducible refine Kd.C_drew ?_) | exact HR364.out)) hb); have n7_ := Aside0.mk (below_step (by repeat (first | (with_reducible first | exact HB.out | apply below_alloc | apply pw_below_drewN | apply below_drew1) | exact HB.out)) hb); clear HO_8; clear HO_10; clear HO355; clear HO360; clear HR352; clear HR364; clear HB; have HO_8 := n0_; have HO_10 := n1_; have HO355 := n2_; have HO360 := n3_; have HO369 := n4_; have HR352 := n5_; have HR364 := n6_; have HB := n7_; clear n0_ n1_ n2_ n3_ n4_ n5_ n6_ n7_; (try clear hb); (try clear hb2); (try clear hk); (try clear hi); (try clear ho0); obtain ⟨Ao72, co72, eo72⟩ := Kd.R_slice HO360.out; subst eo72))
                          go_ret
                          exact ⟨by first | rfl | (simp [errW_none, errW_some] <;> rfl) | (simp [*, errW_none, errW_some] <;> rfl), by repeat (first | (with_reducible first | exact HB.out | apply below_alloc | apply pw_below_drewN | apply below_drew1) | exact HB.out)⟩
                      · rw [if_neg c31] at H
                        have c31b0 : (t357 == (t332.length : Int)) = false := beq_eq_false_iff_ne.mpr c31
                        have c31b1 : (t357 != (t332.length : Int)) = true := bne_iff_ne.mpr c31
                        obtain rfl := Option.some.inj H
                        try go_wp2
                        have n0_ := Aside0.mk (Kd.R_drew HO_8.out)
                        have n1_ := Aside0.mk (Kd.R_drew HO_10.out)
                        have n2_ := Aside0.mk (below_drew1 HB.out)
                        clear HO_8
                        clear HO_10
                        clear HB
                        have HO_8 := n0_
                        have HO_10 := n1_
                        have HB := n2_
                        clear n0_ n1_ n2_
                        obtain ⟨Ao75, co75, eo75⟩ := Kd.R_slice HO_10.out
                        (first | subst eo75 | (injection eo75 with f1_ f2_ f3_; have f4_ := f1_.symm; have f5_ := f3_.symm; clear f1_ f2_ f3_; subst f4_; subst f5_))
                        have q74 : (a2 : Int) ≤ ((t339.length : Int) : Int) := of_decide_eq_true (by first | (with_reducible assumption) | assumption)
                        obtain ⟨i074, hi074, _, hsz74, _⟩ := info_parts info5
                        have hroom74 : t339.length ≤ co75 := (Kd.R_reads' HO_10.out).2.1
                        have hC74 : Kd.C (Kd.int .u8) _ Ao75 t339.length t339 := (Kd.R_reads' HO_10.out).2.2
                        have hcut74 := cut_to (P := Try.prog) 28 5 .i64 Try.underlying28 hi074 Ao75 t339.length co75 a2 (of_decide_eq_true (by first | (with_reducible assumption) | assumption)) q74 hroom74
                        have hr74 := Kd.C_take (m := (a2 : Int).toNat) hC74 (by omega)
                        have hy74 : y349.length = (a2 : Int).toNat := (by rw [Ny349.out, List.length_take]; omega)
                        rw [← Ny349.out] at hr74
                        rw [← hy74] at hcut74
                        have HR352 := Aside0.mk hr74
                        have HC352 := Aside0.mk (show y349.length ≤ co75 from by omega)
                        clear hr74 hC74 hroom74 hi074 hsz74
                        have KY74 := Aside0.mk hy74
                        clear hy74
                        have KL74 := Aside0.mk (show (a2 : Int).toNat ≤ t339.length from by omega)
                        replace q74 := eq_true q74
                        refine start_ (n := 15) (S := fun w' => True) (ds := []) #[false, false, false, false, false, false, false, false, false, false, false, false, false, false, false] (by kernel_rfl) rfl rfl trivial (fun hHeld => ?_); refine with_tabW exerguelaw01_UtfHeads.tab8 exerguelaw01_UtfHeads.bits8 (fun HT_ HW_ => ?_)
                        generalize wc.drew = w73 at HO_8 HO_10 HB HR352 hHeld ⊢
                        refine pure_ (i := 1) (N := some 53) (v := ?_) (a' := ?_) #[false, true, false, false, false, false, false, false, false, false, false, false, false, false, false] rfl rfl (any_of HT_.out (by kernel_rfl)) (fun _ _ _ h => h) (Or.inl ⟨by rfl, ?_⟩) ?_ ?_
                        rotate_left
                        · intro w'
                          go_simp
                          with_reducible rfl
                        rotate_left
                        · simp only [Act.put, List.setIfInBounds_toArray, List.set_cons_zero, List.set_cons_succ, i64_w, i32_w]
                          rfl
                        refine pure_ (i := 3) (N := some 55) (v := ?_) (a' := ?_) #[false, true, false, true, false, false, false, false, false, false, false, false, false, false, false] rfl rfl (any_of HT_.out (by kernel_rfl)) (fun _ _ _ h => h) (Or.inl ⟨by rfl, ?_⟩) ?_ ?_
                        rotate_left
                        · intro w'
                          go_simp
                          with_reducible rfl
                        rotate_left
                        · simp only [Act.put, List.setIfInBounds_toArray, List.set_cons_zero, List.set_cons_succ, i64_w, i32_w]
                          rfl
                        refine pure_ (i := 4) (N := some 56) (v := ?_) (a' := ?_) #[false, true, false, true, true, false, false, false, false, false, false, false, false, false, false] rfl rfl (any_of HT_.out (by kernel_rfl)) (fun _ _ _ h => h) (Or.inl ⟨by rfl, ?_⟩) ?_ ?_
                        rotate_left
                        · intro w'
                          go_simp
                          with_reducible rfl
                        rotate_left
                        · simp only [Act.put, List.setIfInBounds_toArray, List.set_cons_zero, List.set_cons_succ, i64_w, i32_w]
                          rfl
                        refine pure_ (i := 5) (N := some 57) (v := ?_) (a' := ?_) #[false, true, false, true, true, true, false, false, false, false, false, false, false, false, false] rfl rfl (any_of HT_.out (by kernel_rfl)) (fun _ _ _ h => h) (Or.inl ⟨by rfl, ?_⟩) ?_ ?_
                        rotate_left
                        · intro w'
                          go_simp
                          with_reducible rfl
                        rotate_left
                        · simp only [Act.put, List.setIfInBounds_toArray, List.set_cons_zero, List.set_cons_succ, i64_w, i32_w]
                          rfl
                        refine one_ (i := 0) (N := some 52) #[true, true, false, true, true, true, false, false, false, false, false, false, false, false, false] rfl rfl (one_of HT_.out (by kernel_rfl)) (by decide) (fun K hK => ?_)
                        refine Kd.R_lit_step (Kd.int .u8) _ 5 ?hg (N := 52) ?hd (xs := ([] : List Int)) (inner := []) (ok := fun _ => True) (okp := fun _ => True) ?hr ?hp (fun _ hk => hk) trivial (Below.refl _ _) (Nat.le_refl _) (by simp) ?_; (case hd => rfl); (case hg => rfl); (case hr => first | (go_simp; done) | (go_simp; rfl)); (case hp => exact (Reps.none _ _))
                        intro v344 w76 ho77 hb hg_ hnew_
                        clear hg_ hnew_
                        (first | rw [← Ny343.out] at ho77 | (simp only [Int.reduceToNat] at ho77; rw [← Ny343.out] at ho77))
                        have n0_ := Aside0.mk (Kd.R_elder' (by (with_reducible repeat (first | apply Kd.R_alloc | apply Kd.R_drewN | apply Kd.R_drew)); exact HO_8.out) (Kd.R_base ho77) hb)
                        have n1_ := Aside0.mk (Kd.R_elder' (by (with_reducible repeat (first | apply Kd.R_alloc | apply Kd.R_drewN | apply Kd.R_drew)); exact HO_10.out) (Kd.R_base ho77) hb)
                        have n2_ := Aside0.mk (Kd.R_lower (Kd.R_new' (Kd.R_new' ho77 (Kd.R_lt (by (with_reducible repeat (first | apply Kd.R_alloc | apply Kd.R_drewN | apply Kd.R_drew)); exact HO_8.out))) (Kd.R_lt (by (with_reducible repeat (first | apply Kd.R_alloc | apply Kd.R_drewN | apply Kd.R_drew)); exact HO_10.out))) (below_size (by repeat (first | (with_reducible first | exact HB.out | apply below_alloc | apply pw_below_drewN | apply below_drew1) | exact HB.out))))
                        have n3_ := Aside0.mk (Kd.C_below (by repeat (first | (with_reducible exact HR352.out) | (with_reducible refine Kd.C_alloc ?_ _) | (with_reducible refine Kd.C_drewN ?_ _) | (with_reducible refine Kd.C_drew ?_) | exact HR352.out)) hb)
                        have n4_ := Aside0.mk (below_step (by repeat (first | (with_reducible first | exact HB.out | apply below_alloc | apply pw_below_drewN | apply below_drew1) | exact HB.out)) hb)
                        clear HO_8
                        clear HO_10
                        clear HR352
                        clear HB
                        have HO_8 := n0_
                        have HO_10 := n1_
                        have HO345 := n2_
                        have HR352 := n3_
                        have HB := n4_
                        clear n0_ n1_ n2_ n3_ n4_
                        clear hb ho77
                        obtain ⟨Ao79, co79, eo79⟩ := Kd.R_slice HO_8.out
                        (first | subst eo79 | (injection eo79 with f1_ f2_ f3_; have f4_ := f1_.symm; have f5_ := f3_.symm; clear f1_ f2_ f3_; subst f4_; subst f5_))
                        refine hK.out _ _ trivial (fun hHeld => ?_)
                        clear hK K
                        refine norm_ (a' := ?_) ?_ ?_
                        rotate_left
                        · show Act.put _ (some 52) _ = _
                          simp only [Act.put, List.setIfInBounds_toArray, List.set_cons_zero, List.set_cons_succ, i64_w, i32_w]
                          rfl
                        refine one_ (i := 2) (N := some 54) #[true, true, true, true, true, true, false, false, false, false, false, false, false, false, false] rfl rfl (one_of HT_.out (by kernel_rfl)) (by decide) (fun K hK => ?_)
                        refine Kd.R_append_rows_step (Kd.int .u8) (w0 := w) w.heap.size (by rfl) (.tmp 52) (.tmp 53) 28 5 (.int .u8 0) 1 rfl Try.underlying28 info5 rfl (by decide) (by omega) v344 y343 t332 _ _ _ (fun k_ => some k_ ≠ (.slice Ao79 t332.length co79 : Value).ownBlock ∧ some k_ ≠ (.slice Ao75 t339.length co75 : Value).ownBlock) (fun _ => False) rfl rfl ?aO ?aR (fun _ _ h => h) (fun _ h => h.elim) ?aF ?aB ?aS ?aL ?_
                        (case aR => repeat (first | exact (Kd.R_reads' HO_8.out).2.2 | (with_reducible refine Kd.C_alloc ?_ _) | (with_reducible refine Kd.C_drewN ?_ _) | (with_reducible refine Kd.C_drew ?_)))
                        (case aB => exact (by repeat (first | (with_reducible first | exact HB.out | apply below_alloc | apply pw_below_drewN | apply below_drew1) | exact HB.out)))
                        (case aF => exact (fun k_ hk => ⟨Kd.fresh' (Kd.R_lt (by (with_reducible repeat (first | apply Kd.R_alloc | apply Kd.R_drewN | apply Kd.R_drew)); exact HO_8.out)) k_ hk, Kd.fresh' (Kd.R_lt (by (with_reducible repeat (first | apply Kd.R_alloc | apply Kd.R_drewN | apply Kd.R_drew)); exact HO_10.out)) k_ hk⟩))
                        (case aO => exact (by (with_reducible repeat (first | apply Kd.R_alloc | apply Kd.R_drewN | apply Kd.R_drew)); exact Kd.R_mono HO345.out (fun _ hk => ⟨hk.1.2, hk.2⟩)))
                        (case aS => exact (below_size (by repeat (first | (with_reducible first | exact HB.out | apply below_alloc | apply pw_below_drewN | apply below_drew1) | exact HB.out))))
                        (case aL => have := LMc21.out; omega)
                        intro v347 w78 ho hb hg hat
                        rw [← Ny346.out] at ho
                        have n0_ := Aside0.mk (Kd.R_after (ok := (fun k_ => some k_ ≠ (.slice Ao75 t339.length co75 : Value).ownBlock)) (by (with_reducible repeat (first | apply Kd.R_alloc | apply Kd.R_drewN | apply Kd.R_drew)); exact HO_8.out) hg hat)
                        have n1_ := Aside0.mk (Kd.R_after (ok := (fun k_ => some k_ ≠ (.slice Ao79 t332.length co79 : Value).ownBlock)) (by (with_reducible repeat (first | apply Kd.R_alloc | apply Kd.R_drewN | apply Kd.R_drew)); exact HO_10.out) hg hat)
                        have n2_ := Aside0.mk (hb)
                        have n3_ := Aside0.mk ((show Kd.C (Kd.int .u8) w78 Ao75 y349.length y349 from by rw [Ny349.out]; exact Kd.C_take (m := (a2 : Int).toNat) ((Kd.R_reads' (Kd.R_after (ok := (fun k_ => some k_ ≠ (.slice Ao79 t332.length co79 : Value).ownBlock)) (by (with_reducible repeat (first | apply Kd.R_alloc | apply Kd.R_drewN | apply Kd.R_drew)); exact HO_10.out) hg hat)).2.2) KL74.out))
                        have n4_ := Aside0.mk (ho)
                        clear HO_8
                        clear HO_10
                        clear HB
                        clear HR352
                        clear HO345
                        have HO_8 := n0_
                        have HO_10 := n1_
                        have HB := n2_
                        have HR352 := n3_
                        have HO348 := n4_
                        clear n0_ n1_ n2_ n3_ n4_
                        clear ho hb hg hat
                        refine hK.out _ _ trivial (fun hHeld => ?_)
                        clear hK K
                        refine norm_ (a' := ?_) ?_ ?_
                        rotate_left
                        · show Act.put _ (some 54) _ = _
                          simp only [Act.put, List.setIfInBounds_toArray, List.set_cons_zero, List.set_cons_succ, i64_w, i32_w]
                          rfl
                        refine one_ (i := 6) (N := some 58) #[true, true, true, true, true, true, true, false, false, false, false, false, false, false, false] rfl rfl (one_of HT_.out (by kernel_rfl)) (by decide) (fun K hK => ?_)
                        refine Kd.R_append_rows_step (Kd.int .u8) (w0 := w) w.heap.size (by rfl) (.tmp 54) (.tmp 57) 28 5 (.int .u8 0) 1 rfl Try.underlying28 info5 rfl (by decide) (by omega) v347 y346 y349 _ _ _ (fun k_ => some k_ ≠ (.slice Ao79 t332.length co79 : Value).ownBlock ∧ some k_ ≠ (.slice Ao75 t339.length co75 : Value).ownBlock) (fun _ => False) rfl rfl ?aO ?aR (fun _ _ h => h) (fun _ h => h.elim) ?aF ?aB ?aS ?aL ?_
                        (case aR => repeat (first | exact (by repeat (first | (with_reducible exact HR352.out) | (with_reducible refine Kd.C_alloc ?_ _) | (with_reducible refine Kd.C_drewN ?_ _) | (with_reducible refine Kd.C_drew ?_) | exact HR352.out)) | (with_reducible refine Kd.C_alloc ?_ _) | (with_reducible refine Kd.C_drewN ?_ _) | (with_reducible refine Kd.C_drew ?_)))
                        (case aB => exact (by repeat (first | (with_reducible first | exact HB.out | apply below_alloc | apply pw_below_drewN | apply below_drew1) | exact HB.out)))
                        (case aF => exact (fun k_ hk => ⟨Kd.fresh' (Kd.R_lt (by (with_reducible repeat (first | apply Kd.R_alloc | apply Kd.R_drewN | apply Kd.R_drew)); exact HO_8.out)) k_ hk, Kd.fresh' (Kd.R_lt (by (with_reducible repeat (first | apply Kd.R_alloc | apply Kd.R_drewN | apply Kd.R_drew)); exact HO_10.out)) k_ hk⟩))
                        (case aO => exact (by (with_reducible repeat (first | apply Kd.R_alloc | apply Kd.R_drewN | apply Kd.R_drew)); exact HO348.out))
                        (case aS => exact (below_size (by repeat (first | (with_reducible first | exact HB.out | apply below_alloc | apply pw_below_drewN | apply below_drew1) | exact HB.out))))
                        (case aL => have := LMc24.out; omega)
                        intro v354 w80 ho hb hg hat
                        rw [← Ny353.out] at ho
                        have n0_ := Aside0.mk (Kd.R_after (ok := (fun k_ => some k_ ≠ (.slice Ao75 t339.length co75 : Value).ownBlock)) (by (with_reducible repeat (first | apply Kd.R_alloc | apply Kd.R_drewN | apply Kd.R_drew)); exact HO_8.out) hg hat)
                        have n1_ := Aside0.mk (Kd.R_after (ok := (fun k_ => some k_ ≠ (.slice Ao79 t332.length co79 : Value).ownBlock)) (by (with_reducible repeat (first | apply Kd.R_alloc | apply Kd.R_drewN | apply Kd.R_drew)); exact HO_10.out) hg hat)
                        have n2_ := Aside0.mk (hb)
                        have n3_ := Aside0.mk ((show Kd.C (Kd.int .u8) w80 Ao75 y349.length y349 from by rw [Ny349.out]; exact Kd.C_take (m := (a2 : Int).toNat) ((Kd.R_reads' (Kd.R_after (ok := (fun k_ => some k_ ≠ (.slice Ao79 t332.length co79 : Value).ownBlock)) (by (with_reducible repeat (first | apply Kd.R_alloc | apply Kd.R_drewN | apply Kd.R_drew)); exact HO_10.out) hg hat)).2.2) KL74.out))
                        have n4_ := Aside0.mk (ho)
                        clear HO_8
                        clear HO_10
                        clear HB
                        clear HR352
                        clear HO348
                        have HO_8 := n0_
                        have HO_10 := n1_
                        have HB := n2_
                        have HR352 := n3_
                        have HO355 := n4_
                        clear n0_ n1_ n2_ n3_ n4_
                        clear ho hb hg hat
                        obtain ⟨Ao81, co81, eo81⟩ := Kd.R_slice HO355.out
                        (first | subst eo81 | (injection eo81 with f1_ f2_ f3_; have f4_ := f1_.symm; have f5_ := f3_.symm; clear f1_ f2_ f3_; subst f4_; subst f5_))
                        refine hK.out _ _ trivial (fun hHeld => ?_)
                        clear hK K
                        refine norm_ (a' := ?_) ?_ ?_
                        rotate_left
                        · show Act.put _ (some 58) _ = _
                          simp only [Act.put, List.setIfInBounds_toArray, List.set_cons_zero, List.set_cons_succ, i64_w, i32_w]
                          rfl
                        refine one_ (i := 7) (N := some 59) #[true, true, true, true, true, true, true, true, false, false, false, false, false, false, false] rfl rfl (one_of HT_.out (by kernel_rfl)) (by decide) (fun K hK => ?_)
                        refine goes_ Try.func19 (by kernel_rfl) rfl #[.slice Ao81 y353.length co81] (by rfl) rfl rfl (by (try simp only [List.map_toArray, List.map_cons, List.map_nil]); first | done | rfl | (simp only [List.length_drop, List.length_take]; rfl)) ?_
                        with_reducible refine (utf_Decode.calls kj8 _ _ y353 t356 t357 t358 _ ?side1 ?side2 A25.out).mono ?_
                        (case side1 => repeat (first | exact (Kd.R_reads' HO355.out).2.2 | (with_reducible refine Kd.C_alloc ?_ _) | (with_reducible refine Kd.C_drewN ?_ _) | (with_reducible refine Kd.C_drew ?_)))
                        (case side2 => exact (Kd.R_reads' HO355.out).2.1)
                        rintro e w82 ⟨v359, rfl, ho0, hb⟩
                        refine ⟨_, rfl, ?_⟩
                        have n0_ := Aside0.mk (Kd.R_below (by (with_reducible repeat (first | apply Kd.R_alloc | apply Kd.R_drewN | apply Kd.R_drew)); exact HO_8.out) hb)
                        have n1_ := Aside0.mk (Kd.R_below (by (with_reducible repeat (first | apply Kd.R_alloc | apply Kd.R_drewN | apply Kd.R_drew)); exact HO_10.out) hb)
                        have n2_ := Aside0.mk (Kd.R_below (by (with_reducible repeat (first | apply Kd.R_alloc | apply Kd.R_drewN | apply Kd.R_drew)); exact HO355.out) hb)
                        have n3_ := Aside0.mk (Kd.R_lower ho0 (below_size (by repeat (first | (with_reducible first | exact HB.out | apply below_alloc | apply pw_below_drewN | apply below_drew1) | exact HB.out))))
                        have n4_ := Aside0.mk (Kd.C_below (by repeat (first | (with_reducible exact HR352.out) | (with_reducible refine Kd.C_alloc ?_ _) | (with_reducible refine Kd.C_drewN ?_ _) | (with_reducible refine Kd.C_drew ?_) | exact HR352.out)) hb)
                        have n5_ := Aside0.mk (below_step (by repeat (first | (with_reducible first | exact HB.out | apply below_alloc | apply pw_below_drewN | apply below_drew1) | exact HB.out)) hb)
                        clear HO_8
                        clear HO_10
                        clear HO355
                        clear HR352
                        clear HB
                        have HO_8 := n0_
                        have HO_10 := n1_
                        have HO355 := n2_
                        have HO360 := n3_
                        have HR352 := n4_
                        have HB := n5_
                        clear n0_ n1_ n2_ n3_ n4_ n5_
                        (try clear hb)
                        (try clear hb2)
                        (try clear hk)
                        (try clear hi)
                        (try clear ho0)
                        refine hK.out _ _ trivial (fun hHeld => ?_)
                        clear hK K
                        refine norm_ (a' := ?_) ?_ ?_
                        rotate_left
                        · show Act.put _ (some 59) _ = _
                          simp only [Act.put, List.setIfInBounds_toArray, List.set_cons_zero, List.set_cons_succ, i64_w, i32_w]
                          rfl
                        refine pure_ (i := 8) (N := some 51) (v := ?_) (a' := ?_) #[true, true, true, true, true, true, true, true, true, false, false, false, false, false, false] rfl rfl (any_of HT_.out (by kernel_rfl)) (fun _ _ _ h => h) (Or.inl ⟨by rfl, ?_⟩) ?_ ?_
                        rotate_left
                        · intro w'
                          go_simp
                          with_reducible rfl
                        rotate_left
                        · simp only [Act.put, List.setIfInBounds_toArray, List.set_cons_zero, List.set_cons_succ, i64_w, i32_w]
                          rfl
                        refine pure_ (i := 9) (N := some 60) (v := ?_) (a' := ?_) #[true, true, true, true, true, true, true, true, true, true, false, false, false, false, false] rfl rfl (any_of HT_.out (by kernel_rfl)) (fun _ _ _ h => h) (Or.inl ⟨by rfl, ?_⟩) ?_ ?_
                        rotate_left
                        · intro w'
                          go_simp
                          with_reducible rfl
                        rotate_left
                        · simp only [Act.put, List.setIfInBounds_toArray, List.set_cons_zero, List.set_cons_succ, i64_w, i32_w]
                          rfl
                        refine pure_ (i := 10) (N := some 61) (v := ?_) (a' := ?_) #[true, true, true, true, true, true, true, true, true, true, true, false, false, false, false] rfl rfl (any_of HT_.out (by kernel_rfl)) (fun _ _ _ h => h) (Or.inl ⟨by rfl, ?_⟩) ?_ ?_
                        rotate_left
                        · intro w'
                          go_simp
                          with_reducible rfl
                        rotate_left
                        · simp only [Act.put, List.setIfInBounds_toArray, List.set_cons_zero, List.set_cons_succ, i64_w, i32_w]
                          rfl
                        refine pure_ (i := 11) (N := some 62) (v := ?_) (a' := ?_) #[true, true, true, true, true, true, true, true, true, true, true, true, false, false, false] rfl rfl (any_of HT_.out (by kernel_rfl)) (fun _ _ _ h => h) (Or.inl ⟨by rfl, ?_⟩) ?_ ?_
                        rotate_left
                        · intro w'
                          go_simp
                          with_reducible rfl
                        rotate_left
                        · simp only [Act.put, List.setIfInBounds_toArray, List.set_cons_zero, List.set_cons_succ, i64_w, i32_w]
                          rfl
                        refine pure_ (i := 12) (N := some 12) (v := ?_) (a' := ?_) #[true, true, true, true, true, true, true, true, true, true, true, true, true, false, false] rfl rfl (any_of HT_.out (by kernel_rfl)) (fun _ _ _ h => h) (Or.inl ⟨by rfl, ?_⟩) ?_ ?_
                        rotate_left
                        · intro w'
                          go_simp
                          with_reducible rfl
                        rotate_left
                        · simp only [Act.put, List.setIfInBounds_toArray, List.set_cons_zero, List.set_cons_succ, i64_w, i32_w]
                          rfl
                        refine pure_ (i := 13) (N := some 13) (v := ?_) (a' := ?_) #[true, true, true, true, true, true, true, true, true, true, true, true, true, true, false] rfl rfl (any_of HT_.out (by kernel_rfl)) (fun _ _ _ h => h) (Or.inl ⟨by rfl, ?_⟩) ?_ ?_
                        rotate_left
                        · intro w'
                          go_simp
                          with_reducible rfl
                        rotate_left
                        · simp only [Act.put, List.setIfInBounds_toArray, List.set_cons_zero, List.set_cons_succ, i64_w, i32_w]
                          rfl
                        refine pure_ (i := 14) (N := some 14) (v := ?_) (a' := ?_) #[true, true, true, true, true, true, true, true, true, true, true, true, true, true, true] rfl rfl (any_of HT_.out (by kernel_rfl)) (fun _ _ _ h => h) (Or.inl ⟨by rfl, ?_⟩) ?_ ?_
                        rotate_left
                        · intro w'
                          go_simp
                          with_reducible rfl
                        rotate_left
                        · simp only [Act.put, List.setIfInBounds_toArray, List.set_cons_zero, List.set_cons_succ, i64_w, i32_w]
                          rfl
                        refine done_ (done_of HT_.out (by kernel_rfl)) ?_
                        have q83 : (a2 : Int) ≤ ((t339.length : Int) : Int) := of_decide_eq_true (by first | (with_reducible assumption) | assumption)
                        obtain ⟨i083, hi083, _, hsz83, _⟩ := info_parts info5
                        have hroom83 : t339.length ≤ co75 := (Kd.R_reads' HO_10.out).2.1
                        have hC83 : Kd.C (Kd.int .u8) _ Ao75 t339.length t339 := (Kd.R_reads' HO_10.out).2.2
                        have q083 : (0 : Int) ≤ (a2 : Int) := of_decide_eq_true (by first | (with_reducible assumption) | assumption)
                        have hcut83 := cut_from (P := Try.prog) 28 5 .i64 Try.underlying28 hi083 1 hsz83 Ao75 t339.length co75 a2 q083 q83
                        have hr83 := Kd.C_drop (m := (a2 : Int).toNat) (c := co75) hC83 (by omega) hroom83
                        obtain ⟨A83, hA83⟩ : ∃ A1, A1 = (if co75 = (a2 : Int).toNat then Ao75 else (Ao75 : Option Addr).map (·.add ((a2 : Int).toNat * 1))) := ⟨_, rfl⟩
                        obtain ⟨c83, hc83⟩ : ∃ c1, c1 = co75 - (a2 : Int).toNat := ⟨_, rfl⟩
                        have hy83 : y361.length = t339.length - (a2 : Int).toNat := (by rw [Ny361.out, List.length_drop] <;> omega)
                        rw [show (t339).drop (a2 : Int).toNat = y361 from Ny361.out.symm] at hr83
                        replace hr83 : Kd.C (Kd.int .u8) _ A83 y361.length y361 := (by rw [hA83]; exact hr83)
                        rw [← hy83, ← hA83, ← hc83] at hcut83
                        have HR364 := Aside0.mk hr83
                        have HC364 := Aside0.mk (show y361.length ≤ c83 from by rw [hy83, hc83]; exact Nat.sub_le_sub_right hroom83 _)
                        clear hr83 hC83 hroom83 hi083 hsz83 hc83
                        have KY83 := Aside0.mk hy83
                        have KA83 := Aside0.mk hA83
                        clear hy83 hA83
                        have KL83 := Aside0.mk (show (a2 : Int).toNat ≤ t339.length from by omega)
                        replace q83 := eq_true q83
                        try go_wp2_with (first | ((with_reducible refine gate_callee (f := 19) rfl ?_); refine goesL_ (some 67) rfl rfl Try.func19 (by kernel_rfl) rfl #[.slice A83 y361.length c83] rfl (by (try simp only [List.map_toArray, List.map_cons, List.map_nil]); first | done | rfl | (simp only [List.length_drop, List.length_take]; rfl)) ?_; (with_reducible refine (utf_Decode.calls kj8 _ _ y361 t365 t366 t367 _ ?side1 ?side2 A28.out).mono ?_); (case side1 => repeat (first | exact (by repeat (first | (with_reducible exact HR364.out) | (with_reducible refine Kd.C_alloc ?_ _) | (with_reducible refine Kd.C_drewN ?_ _) | (with_reducible refine Kd.C_drew ?_) | exact HR364.out)) | (with_reducible refine Kd.C_alloc ?_ _) | (with_reducible refine Kd.C_drewN ?_ _) | (with_reducible refine Kd.C_drew ?_))); (case side2 => exact HC364.out); rintro e w84 ⟨v368, rfl, ho0, hb⟩; refine ⟨_, rfl, ?_⟩; have n0_ := Aside0.mk (Kd.R_below (by (with_reducible repeat (first | apply Kd.R_alloc | apply Kd.R_drewN | apply Kd.R_drew)); exact HO_8.out) hb); have n1_ := Aside0.mk (Kd.R_below (by (with_reducible repeat (first | apply Kd.R_alloc | apply Kd.R_drewN | apply Kd.R_drew)); exact HO_10.out) hb); have n2_ := Aside0.mk (Kd.R_below (by (with_reducible repeat (first | apply Kd.R_alloc | apply Kd.R_drewN | apply Kd.R_drew)); exact HO355.out) hb); have n3_ := Aside0.mk (Kd.R_elder' (by (with_reducible repeat (first | apply Kd.R_alloc | apply Kd.R_drewN | apply Kd.R_drew)); exact HO360.out) (Kd.R_base ho0) hb); have n4_ := Aside0.mk (Kd.R_lower (Kd.R_new' ho0 (Kd.R_lt (by (with_reducible repeat (first | apply Kd.R_alloc | apply Kd.R_drewN | apply Kd.R_drew)); exact HO360.out))) (below_size (by repeat (first | (with_reducible first | exact HB.out | apply below_alloc | apply pw_below_drewN | apply below_drew1) | exact HB.out)))); have n5_ := Aside0.mk (Kd.C_below (by repeat (first | (with_reducible exact HR352.out) | (with_reducible refine Kd.C_alloc ?_ _) | (with_reducible refine Kd.C_drewN ?_ _) | (with_reducible refine Kd.C_drew ?_) | exact HR352.out)) hb); have n6_ := Aside0.mk (Kd.C_below (by repeat (first | (with_reducible exact HR364.out) | (with_reducible refine Kd.C_alloc ?_ _) | (with_reducible refine Kd.C_drewN ?_ _) | (with_reducible refine Kd.C_drew ?_) | exact HR364.out)) hb); have n7_ := Aside0.mk (below_step (by repeat (first | (with_reducible first | exact HB.out | apply below_alloc | apply pw_below_drewN | apply below_drew1) | exact HB.out)) hb); clear HO_8; clear HO_10; clear HO355; clear HO360; clear HR352; clear HR364; clear HB; have HO_8 := n0_; have HO_10 := n1_; have HO355 := n2_; have HO360 := n3_; have HO369 := n4_; have HR352 := n5_; have HR364 := n6_; have HB := n7_; clear n0_ n1_ n2_ n3_ n4_ n5_ n6_ n7_; (try clear hb); (try clear hb2); (try clear hk); (try clear hi); (try clear ho0)))
                        go_ret
                        exact ⟨by first | rfl | (simp [errW_none, errW_some] <;> rfl) | (simp [*, errW_none, errW_some] <;> rfl), by repeat (first | (with_reducible first | exact HB.out | apply below_alloc | apply pw_below_drewN | apply below_drew1) | exact HB.out)⟩
                    · rw [if_neg c30] at H
                      have c30b0 : (t358 == 3) = false := beq_eq_false_iff_ne.mpr c30
                      have c30b1 : (t358 != 3) = true := bne_iff_ne.mpr c30
                      obtain rfl := Option.some.inj H
                      try go_wp2
                      have n0_ := Aside0.mk (Kd.R_drew HO_8.out)
                      have n1_ := Aside0.mk (Kd.R_drew HO_10.out)
                      have n2_ := Aside0.mk (below_drew1 HB.out)
                      clear HO_8
                      clear HO_10
                      clear HB
                      have HO_8 := n0_
                      have HO_10 := n1_
                      have HB := n2_
                      clear n0_ n1_ n2_
                      obtain ⟨Ao87, co87, eo87⟩ := Kd.R_slice HO_10.out
                      (first | subst eo87 | (injection eo87 with f1_ f2_ f3_; have f4_ := f1_.symm; have f5_ := f3_.symm; clear f1_ f2_ f3_; subst f4_; subst f5_))
                      have q86 : (a2 : Int) ≤ ((t339.length : Int) : Int) := of_decide_eq_true (by first | (with_reducible assumption) | assumption)
                      obtain ⟨i086, hi086, _, hsz86, _⟩ := info_parts info5
                      have hroom86 : t339.length ≤ co87 := (Kd.R_reads' HO_10.out).2.1
                      have hC86 : Kd.C (Kd.int .u8) _ Ao87 t339.length t339 := (Kd.R_reads' HO_10.out).2.2
                      have hcut86 := cut_to (P := Try.prog) 28 5 .i64 Try.underlying28 hi086 Ao87 t339.length co87 a2 (of_decide_eq_true (by first | (with_reducible assumption) | assumption)) q86 hroom86
                      have hr86 := Kd.C_take (m := (a2 : Int).toNat) hC86 (by omega)
                      have hy86 : y349.length = (a2 : Int).toNat := (by rw [Ny349.out, List.length_take]; omega)
                      rw [← Ny349.out] at hr86
                      rw [← hy86] at hcut86
                      have HR352 := Aside0.mk hr86
                      have HC352 := Aside0.mk (show y349.length ≤ co87 from by omega)
                      clear hr86 hC86 hroom86 hi086 hsz86
                      have KY86 := Aside0.mk hy86
                      clear hy86
                      have KL86 := Aside0.mk (show (a2 : Int).toNat ≤ t339.length from by omega)
                      replace q86 := eq_true q86
                      refine start_ (n := 15) (S := fun w' => True) (ds := []) #[false, false, false, false, false, false, false, false, false, false, false, false, false, false, false] (by kernel_rfl) rfl rfl trivial (fun hHeld => ?_); refine with_tabW exerguelaw01_UtfHeads.tab8 exerguelaw01_UtfHeads.bits8 (fun HT_ HW_ => ?_)
                      generalize wc.drew = w85 at HO_8 HO_10 HB HR352 hHeld ⊢
                      refine pure_ (i := 1) (N := some 53) (v := ?_) (a' := ?_) #[false, true, false, false, false, false, false, false, false, false, false, false, false, false, false] rfl rfl (any_of HT_.out (by kernel_rfl)) (fun _ _ _ h => h) (Or.inl ⟨by rfl, ?_⟩) ?_ ?_
                      rotate_left
                      · intro w'
                        go_simp
                        with_reducible rfl
                      rotate_left
                      · simp only [Act.put, List.setIfInBounds_toArray, List.set_cons_zero, List.set_cons_succ, i64_w, i32_w]
                        rfl
                      refine pure_ (i := 3) (N := some 55) (v := ?_) (a' := ?_) #[false, true, false, true, false, false, false, false, false, false, false, false, false, false, false] rfl rfl (any_of HT_.out (by kernel_rfl)) (fun _ _ _ h => h) (Or.inl ⟨by rfl, ?_⟩) ?_ ?_
                      rotate_left
                      · intro w'
                        go_simp
                        with_reducible rfl
                      rotate_left
                      · simp only [Act.put, List.setIfInBounds_toArray, List.set_cons_zero, List.set_cons_succ, i64_w, i32_w]
                        rfl
                      refine pure_ (i := 4) (N := some 56) (v := ?_) (a' := ?_) #[false, true, false, true, true, false, false, false, false, false, false, false, false, false, false] rfl rfl (any_of HT_.out (by kernel_rfl)) (fun _ _ _ h => h) (Or.inl ⟨by rfl, ?_⟩) ?_ ?_
                      rotate_left
                      · intro w'
                        go_simp
                        with_reducible rfl
                      rotate_left
                      · simp only [Act.put, List.setIfInBounds_toArray, List.set_cons_zero, List.set_cons_succ, i64_w, i32_w]
                        rfl
                      refine pure_ (i := 5) (N := some 57) (v := ?_) (a' := ?_) #[false, true, false, true, true, true, false, false, false, false, false, false, false, false, false] rfl rfl (any_of HT_.out (by kernel_rfl)) (fun _ _ _ h => h) (Or.inl ⟨by rfl, ?_⟩) ?_ ?_
                      rotate_left
                      · intro w'
                        go_simp
                        with_reducible rfl
                      rotate_left
                      · simp only [Act.put, List.setIfInBounds_toArray, List.set_cons_zero, List.set_cons_succ, i64_w, i32_w]
                        rfl
                      refine one_ (i := 0) (N := some 52) #[true, true, false, true, true, true, false, false, false, false, false, false, false, false, false] rfl rfl (one_of HT_.out (by kernel_rfl)) (by decide) (fun K hK => ?_)
                      refine Kd.R_lit_step (Kd.int .u8) _ 5 ?hg (N := 52) ?hd (xs := ([] : List Int)) (inner := []) (ok := fun _ => True) (okp := fun _ => True) ?hr ?hp (fun _ hk => hk) trivial (Below.refl _ _) (Nat.le_refl _) (by simp) ?_; (case hd => rfl); (case hg => rfl); (case hr => first | (go_simp; done) | (go_simp; rfl)); (case hp => exact (Reps.none _ _))
                      intro v344 w88 ho89 hb hg_ hnew_
                      clear hg_ hnew_
                      (first | rw [← Ny343.out] at ho89 | (simp only [Int.reduceToNat] at ho89; rw [← Ny343.out] at ho89))
                      have n0_ := Aside0.mk (Kd.R_elder' (by (with_reducible repeat (first | apply Kd.R_alloc | apply Kd.R_drewN | apply Kd.R_drew)); exact HO_8.out) (Kd.R_base ho89) hb)
                      have n1_ := Aside0.mk (Kd.R_elder' (by (with_reducible repeat (first | apply Kd.R_alloc | apply Kd.R_drewN | apply Kd.R_drew)); exact HO_10.out) (Kd.R_base ho89) hb)
                      have n2_ := Aside0.mk (Kd.R_lower (Kd.R_new' (Kd.R_new' ho89 (Kd.R_lt (by (with_reducible repeat (first | apply Kd.R_alloc | apply Kd.R_drewN | apply Kd.R_drew)); exact HO_8.out))) (Kd.R_lt (by (with_reducible repeat (first | apply Kd.R_alloc | apply Kd.R_drewN | apply Kd.R_drew)); exact HO_10.out))) (below_size (by repeat (first | (with_reducible first | exact HB.out | apply below_alloc | apply pw_below_drewN | apply below_drew1) | exact HB.out))))
                      have n3_ := Aside0.mk (Kd.C_below (by repeat (first | (with_reducible exact HR352.out) | (with_reducible refine Kd.C_alloc ?_ _) | (with_reducible refine Kd.C_drewN ?_ _) | (with_reducible refine Kd.C_drew ?_) | exact HR352.out)) hb)
                      have n4_ := Aside0.mk (below_step (by repeat (first | (with_reducible first | exact HB.out | apply below_alloc | apply pw_below_drewN | apply below_drew1) | exact HB.out)) hb)
                      clear HO_8
                      clear HO_10
                      clear HR352
                      clear HB
                      have HO_8 := n0_
                      have HO_10 := n1_
                      have HO345 := n2_
                      have HR352 := n3_
                      have HB := n4_
                      clear n0_ n1_ n2_ n3_ n4_
                      clear hb ho89
                      obtain ⟨Ao91, co91, eo91⟩ := Kd.R_slice HO_8.out
                      (first | subst eo91 | (injection eo91 with f1_ f2_ f3_; have f4_ := f1_.symm; have f5_ := f3_.symm; clear f1_ f2_ f3_; subst f4_; subst f5_))
                      refine hK.out _ _ trivial (fun hHeld => ?_)
                      clear hK K
                      refine norm_ (a' := ?_) ?_ ?_
                      rotate_left
                      · show Act.put _ (some 52) _ = _
                        simp only [Act.put, List.setIfInBounds_toArray, List.set_cons_zero, List.set_cons_succ, i64_w, i32_w]
                        rfl
                      refine one_ (i := 2) (N := some 54) #[true, true, true, true, true, true, false, false, false, false, false, false, false, false, false] rfl rfl (one_of HT_.out (by kernel_rfl)) (by decide) (fun K hK => ?_)
                      refine Kd.R_append_rows_step (Kd.int .u8) (w0 := w) w.heap.size (by rfl) (.tmp 52) (.tmp 53) 28 5 (.int .u8 0) 1 rfl Try.underlying28 info5 rfl (by decide) (by omega) v344 y343 t332 _ _ _ (fun k_ => some k_ ≠ (.slice Ao91 t332.length co91 : Value).ownBlock ∧ some k_ ≠ (.slice Ao87 t339.length co87 : Value).ownBlock) (fun _ => False) rfl rfl ?aO ?aR (fun _ _ h => h) (fun _ h => h.elim) ?aF ?aB ?aS ?aL ?_
                      (case aR => repeat (first | exact (Kd.R_reads' HO_8.out).2.2 | (with_reducible refine Kd.C_alloc ?_ _) | (with_reducible refine Kd.C_drewN ?_ _) | (with_reducible refine Kd.C_drew ?_)))
                      (case aB => exact (by repeat (first | (with_reducible first | exact HB.out | apply below_alloc | apply pw_below_drewN | apply below_drew1) | exact HB.out)))
                      (case aF => exact (fun k_ hk => ⟨Kd.fresh' (Kd.R_lt (by (with_reducible repeat (first | apply Kd.R_alloc | apply Kd.R_drewN | apply Kd.R_drew)); exact HO_8.out)) k_ hk, Kd.fresh' (Kd.R_lt (by (with_reducible repeat (first | apply Kd.R_alloc | apply Kd.R_drewN | apply Kd.R_drew)); exact HO_10.out)) k_ hk⟩))
                      (case aO => exact (by (with_reducible repeat (first | apply Kd.R_alloc | apply Kd.R_drewN | apply Kd.R_drew)); exact Kd.R_mono HO345.out (fun _ hk => ⟨hk.1.2, hk.2⟩)))
                      (case aS => exact (below_size (by repeat (first | (with_reducible first | exact HB.out | apply below_alloc | apply pw_below_drewN | apply below_drew1) | exact HB.out))))
                      (case aL => have := LMc21.out; omega)
                      intro v347 w90 ho hb hg hat
                      rw [← Ny346.out] at ho
                      have n0_ := Aside0.mk (Kd.R_after (ok := (fun k_ => some k_ ≠ (.slice Ao87 t339.length co87 : Value).ownBlock)) (by (with_reducible repeat (first | apply Kd.R_alloc | apply Kd.R_drewN | apply Kd.R_drew)); exact HO_8.out) hg hat)
                      have n1_ := Aside0.mk (Kd.R_after (ok := (fun k_ => some k_ ≠ (.slice Ao91 t332.length co91 : Value).ownBlock)) (by (with_reducible repeat (first | apply Kd.R_alloc | apply Kd.R_drewN | apply Kd.R_drew)); exact HO_10.out) hg hat)
                      have n2_ := Aside0.mk (hb)
                      have n3_ := Aside0.mk ((show Kd.C (Kd.int .u8) w90 Ao87 y349.length y349 from by rw [Ny349.out]; exact Kd.C_take (m := (a2 : Int).toNat) ((Kd.R_reads' (Kd.R_after (ok := (fun k_ => some k_ ≠ (.slice Ao91 t332.length co91 : Value).ownBlock)) (by (with_reducible repeat (first | apply Kd.R_alloc | apply Kd.R_drewN | apply Kd.R_drew)); exact HO_10.out) hg hat)).2.2) KL86.out))
                      have n4_ := Aside0.mk (ho)
                      clear HO_8
                      clear HO_10
                      clear HB
                      clear HR352
                      clear HO345
                      have HO_8 := n0_
                      have HO_10 := n1_
                      have HB := n2_
                      have HR352 := n3_
                      have HO348 := n4_
                      clear n0_ n1_ n2_ n3_ n4_
                      clear ho hb hg hat
                      refine hK.out _ _ trivial (fun hHeld => ?_)
                      clear hK K
                      refine norm_ (a' := ?_) ?_ ?_
                      rotate_left
                      · show Act.put _ (some 54) _ = _
                        simp only [Act.put, List.setIfInBounds_toArray, List.set_cons_zero, List.set_cons_succ, i64_w, i32_w]
                        rfl
                      refine one_ (i := 6) (N := some 58) #[true, true, true, true, true, true, true, false, false, false, false, false, false, false, false] rfl rfl (one_of HT_.out (by kernel_rfl)) (by decide) (fun K hK => ?_)
                      refine Kd.R_append_rows_step (Kd.int .u8) (w0 := w) w.heap.size (by rfl) (.tmp 54) (.tmp 57) 28 5 (.int .u8 0) 1 rfl Try.underlying28 info5 rfl (by decide) (by omega) v347 y346 y349 _ _ _ (fun k_ => some k_ ≠ (.slice Ao91 t332.length co91 : Value).ownBlock ∧ some k_ ≠ (.slice Ao87 t339.length co87 : Value).ownBlock) (fun _ => False) rfl rfl ?aO ?aR (fun _ _ h => h) (fun _ h => h.elim) ?aF ?aB ?aS ?aL ?_
                      (case aR => repeat (first | exact (by repeat (first | (with_reducible exact HR352.out) | (with_reducible refine Kd.C_alloc ?_ _) | (with_reducible refine Kd.C_drewN ?_ _) | (with_reducible refine Kd.C_drew ?_) | exact HR352.out)) | (with_reducible refine Kd.C_alloc ?_ _) | (with_reducible refine Kd.C_drewN ?_ _) | (with_reducible refine Kd.C_drew ?_)))
                      (case aB => exact (by repeat (first | (with_reducible first | exact HB.out | apply below_alloc | apply pw_below_drewN | apply below_drew1) | exact HB.out)))
                      (case aF => exact (fun k_ hk => ⟨Kd.fresh' (Kd.R_lt (by (with_reducible repeat (first | apply Kd.R_alloc | apply Kd.R_drewN | apply Kd.R_drew)); exact HO_8.out)) k_ hk, Kd.fresh' (Kd.R_lt (by (with_reducible repeat (first | apply Kd.R_alloc | apply Kd.R_drewN | apply Kd.R_drew)); exact HO_10.out)) k_ hk⟩))
                      (case aO => exact (by (with_reducible repeat (first | apply Kd.R_alloc | apply Kd.R_drewN | apply Kd.R_drew)); exact HO348.out))
                      (case aS => exact (below_size (by repeat (first | (with_reducible first | exact HB.out | apply below_alloc | apply pw_below_drewN | apply below_drew1) | exact HB.out))))
                      (case aL => have := LMc24.out; omega)
                      intro v354 w92 ho hb hg hat
                      rw [← Ny353.out] at ho
                      have n0_ := Aside0.mk (Kd.R_after (ok := (fun k_ => some k_ ≠ (.slice Ao87 t339.length co87 : Value).ownBlock)) (by (with_reducible repeat (first | apply Kd.R_alloc | apply Kd.R_drewN | apply Kd.R_drew)); exact HO_8.out) hg hat)
                      have n1_ := Aside0.mk (Kd.R_after (ok := (fun k_ => some k_ ≠ (.slice Ao91 t332.length co91 : Value).ownBlock)) (by (with_reducible repeat (first | apply Kd.R_alloc | apply Kd.R_drewN | apply Kd.R_drew)); exact HO_10.out) hg hat)
                      have n2_ := Aside0.mk (hb)
                      have n3_ := Aside0.mk ((show Kd.C (Kd.int .u8) w92 Ao87 y349.length y349 from by rw [Ny349.out]; exact Kd.C_take (m := (a2 : Int).toNat) ((Kd.R_reads' (Kd.R_after (ok := (fun k_ => some k_ ≠ (.slice Ao91 t332.length co91 : Value).ownBlock)) (by (with_reducible repeat (first | apply Kd.R_alloc | apply Kd.R_drewN | apply Kd.R_drew)); exact HO_10.out) hg hat)).2.2) KL86.out))
                      have n4_ := Aside0.mk (ho)
                      clear HO_8
                      clear HO_10
                      clear HB
                      clear HR352
                      clear HO348
                      have HO_8 := n0_
                      have HO_10 := n1_
                      have HB := n2_
                      have HR352 := n3_
                      have HO355 := n4_
                      clear n0_ n1_ n2_ n3_ n4_
                      clear ho hb hg hat
                      obtain ⟨Ao93, co93, eo93⟩ := Kd.R_slice HO355.out
                      (first | subst eo93 | (injection eo93 with f1_ f2_ f3_; have f4_ := f1_.symm; have f5_ := f3_.symm; clear f1_ f2_ f3_; subst f4_; subst f5_))
                      refine hK.out _ _ trivial (fun hHeld => ?_)
                      clear hK K
                      refine norm_ (a' := ?_) ?_ ?_
                      rotate_left
                      · show Act.put _ (some 58) _ = _
                        simp only [Act.put, List.setIfInBounds_toArray, List.set_cons_zero, List.set_cons_succ, i64_w, i32_w]
                        rfl
                      refine one_ (i := 7) (N := some 59) #[true, true, true, true, true, true, true, true, false, false, false, false, false, false, false] rfl rfl (one_of HT_.out (by kernel_rfl)) (by decide) (fun K hK => ?_)
                      refine goes_ Try.func19 (by kernel_rfl) rfl #[.slice Ao93 y353.length co93] (by rfl) rfl rfl (by (try simp only [List.map_toArray, List.map_cons, List.map_nil]); first | done | rfl | (simp only [List.length_drop, List.length_take]; rfl)) ?_
                      with_reducible refine (utf_Decode.calls kj8 _ _ y353 t356 t357 t358 _ ?side1 ?side2 A25.out).mono ?_
                      (case side1 => repeat (first | exact (Kd.R_reads' HO355.out).2.2 | (with_reducible refine Kd.C_alloc ?_ _) | (with_reducible refine Kd.C_drewN ?_ _) | (with_reducible refine Kd.C_drew ?_)))
                      (case side2 => exact (Kd.R_reads' HO355.out).2.1)
                      rintro e w94 ⟨v359, rfl, ho0, hb⟩
                      refine ⟨_, rfl, ?_⟩
                      have n0_ := Aside0.mk (Kd.R_below (by (with_reducible repeat (first | apply Kd.R_alloc | apply Kd.R_drewN | apply Kd.R_drew)); exact HO_8.out) hb)
                      have n1_ := Aside0.mk (Kd.R_below (by (with_reducible repeat (first | apply Kd.R_alloc | apply Kd.R_drewN | apply Kd.R_drew)); exact HO_10.out) hb)
                      have n2_ := Aside0.mk (Kd.R_below (by (with_reducible repeat (first | apply Kd.R_alloc | apply Kd.R_drewN | apply Kd.R_drew)); exact HO355.out) hb)
                      have n3_ := Aside0.mk (Kd.R_lower ho0 (below_size (by repeat (first | (with_reducible first | exact HB.out | apply below_alloc | apply pw_below_drewN | apply below_drew1) | exact HB.out))))
                      have n4_ := Aside0.mk (Kd.C_below (by repeat (first | (with_reducible exact HR352.out) | (with_reducible refine Kd.C_alloc ?_ _) | (with_reducible refine Kd.C_drewN ?_ _) | (with_reducible refine Kd.C_drew ?_) | exact HR352.out)) hb)
                      have n5_ := Aside0.mk (below_step (by repeat (first | (with_reducible first | exact HB.out | apply below_alloc | apply pw_below_drewN | apply below_drew1) | exact HB.out)) hb)
                      clear HO_8
                      clear HO_10
                      clear HO355
                      clear HR352
                      clear HB
                      have HO_8 := n0_
                      have HO_10 := n1_
                      have HO355 := n2_
                      have HO360 := n3_
                      have HR352 := n4_
                      have HB := n5_
                      clear n0_ n1_ n2_ n3_ n4_ n5_
                      (try clear hb)
                      (try clear hb2)
                      (try clear hk)
                      (try clear hi)
                      (try clear ho0)
                      refine hK.out _ _ trivial (fun hHeld => ?_)
                      clear hK K
                      refine norm_ (a' := ?_) ?_ ?_
                      rotate_left
                      · show Act.put _ (some 59) _ = _
                        simp only [Act.put, List.setIfInBounds_toArray, List.set_cons_zero, List.set_cons_succ, i64_w, i32_w]
                        rfl
                      refine pure_ (i := 8) (N := some 51) (v := ?_) (a' := ?_) #[true, true, true, true, true, true, true, true, true, false, false, false, false, false, false] rfl rfl (any_of HT_.out (by kernel_rfl)) (fun _ _ _ h => h) (Or.inl ⟨by rfl, ?_⟩) ?_ ?_
                      rotate_left
                      · intro w'
                        go_simp
                        with_reducible rfl
                      rotate_left
                      · simp only [Act.put, List.setIfInBounds_toArray, List.set_cons_zero, List.set_cons_succ, i64_w, i32_w]
                        rfl
                      refine pure_ (i := 9) (N := some 60) (v := ?_) (a' := ?_) #[true, true, true, true, true, true, true, true, true, true, false, false, false, false, false] rfl rfl (any_of HT_.out (by kernel_rfl)) (fun _ _ _ h => h) (Or.inl ⟨by rfl, ?_⟩) ?_ ?_
                      rotate_left
                      · intro w'
                        go_simp
                        with_reducible rfl
                      rotate_left
                      · simp only [Act.put, List.setIfInBounds_toArray, List.set_cons_zero, List.set_cons_succ, i64_w, i32_w]
                        rfl
                      refine pure_ (i := 10) (N := some 61) (v := ?_) (a' := ?_) #[true, true, true, true, true, true, true, true, true, true, true, false, false, false, false] rfl rfl (any_of HT_.out (by kernel_rfl)) (fun _ _ _ h => h) (Or.inl ⟨by rfl, ?_⟩) ?_ ?_
                      rotate_left
                      · intro w'
                        go_simp
                        with_reducible rfl
                      rotate_left
                      · simp only [Act.put, List.setIfInBounds_toArray, List.set_cons_zero, List.set_cons_succ, i64_w, i32_w]
                        rfl
                      refine pure_ (i := 11) (N := some 62) (v := ?_) (a' := ?_) #[true, true, true, true, true, true, true, true, true, true, true, true, false, false, false] rfl rfl (any_of HT_.out (by kernel_rfl)) (fun _ _ _ h => h) (Or.inl ⟨by rfl, ?_⟩) ?_ ?_
                      rotate_left
                      · intro w'
                        go_simp
                        with_reducible rfl
                      rotate_left
                      · simp only [Act.put, List.setIfInBounds_toArray, List.set_cons_zero, List.set_cons_succ, i64_w, i32_w]
                        rfl
                      refine pure_ (i := 12) (N := some 12) (v := ?_) (a' := ?_) #[true, true, true, true, true, true, true, true, true, true, true, true, true, false, false] rfl rfl (any_of HT_.out (by kernel_rfl)) (fun _ _ _ h => h) (Or.inl ⟨by rfl, ?_⟩) ?_ ?_
                      rotate_left
                      · intro w'
                        go_simp
                        with_reducible rfl
                      rotate_left
                      · simp only [Act.put, List.setIfInBounds_toArray, List.set_cons_zero, List.set_cons_succ, i64_w, i32_w]
                        rfl
                      refine pure_ (i := 13) (N := some 13) (v := ?_) (a' := ?_) #[true, true, true, true, true, true, true, true, true, true, true, true, true, true, false] rfl rfl (any_of HT_.out (by kernel_rfl)) (fun _ _ _ h => h) (Or.inl ⟨by rfl, ?_⟩) ?_ ?_
                      rotate_left
                      · intro w'
                        go_simp
                        with_reducible rfl
                      rotate_left
                      · simp only [Act.put, List.setIfInBounds_toArray, List.set_cons_zero, List.set_cons_succ, i64_w, i32_w]
                        rfl
                      refine pure_ (i := 14) (N := some 14) (v := ?_) (a' := ?_) #[true, true, true, true, true, true, true, true, true, true, true, true, true, true, true] rfl rfl (any_of HT_.out (by kernel_rfl)) (fun _ _ _ h => h) (Or.inl ⟨by rfl, ?_⟩) ?_ ?_
                      rotate_left
                      · intro w'
                        go_simp
                        with_reducible rfl
                      rotate_left
                      · simp only [Act.put, List.setIfInBounds_toArray, List.set_cons_zero, List.set_cons_succ, i64_w, i32_w]
                        rfl
                      refine done_ (done_of HT_.out (by kernel_rfl)) ?_
                      have q95 : (a2 : Int) ≤ ((t339.length : Int) : Int) := of_decide_eq_true (by first | (with_reducible assumption) | assumption)
                      obtain ⟨i095, hi095, _, hsz95, _⟩ := info_parts info5
                      have hroom95 : t339.length ≤ co87 := (Kd.R_reads' HO_10.out).2.1
                      have hC95 : Kd.C (Kd.int .u8) _ Ao87 t339.length t339 := (Kd.R_reads' HO_10.out).2.2
                      have q095 : (0 : Int) ≤ (a2 : Int) := of_decide_eq_true (by first | (with_reducible assumption) | assumption)
                      have hcut95 := cut_from (P := Try.prog) 28 5 .i64 Try.underlying28 hi095 1 hsz95 Ao87 t339.length co87 a2 q095 q95
                      have hr95 := Kd.C_drop (m := (a2 : Int).toNat) (c := co87) hC95 (by omega) hroom95
                      obtain ⟨A95, hA95⟩ : ∃ A1, A1 = (if co87 = (a2 : Int).toNat then Ao87 else (Ao87 : Option Addr).map (·.add ((a2 : Int).toNat * 1))) := ⟨_, rfl⟩
                      obtain ⟨c95, hc95⟩ : ∃ c1, c1 = co87 - (a2 : Int).toNat := ⟨_, rfl⟩
                      have hy95 : y361.length = t339.length - (a2 : Int).toNat := (by rw [Ny361.out, List.length_drop] <;> omega)
                      rw [show (t339).drop (a2 : Int).toNat = y361 from Ny361.out.symm] at hr95
                      replace hr95 : Kd.C (Kd.int .u8) _ A95 y361.length y361 := (by rw [hA95]; exact hr95)
                      rw [← hy95, ← hA95, ← hc95] at hcut95
                      have HR364 := Aside0.mk hr95
                      have HC364 := Aside0.mk (show y361.length ≤ c95 from by rw [hy95, hc95]; exact Nat.sub_le_sub_right hroom95 _)
                      clear hr95 hC95 hroom95 hi095 hsz95 hc95
                      have KY95 := Aside0.mk hy95
                      have KA95 := Aside0.mk hA95
                      clear hy95 hA95
                      have KL95 := Aside0.mk (show (a2 : Int).toNat ≤ t339.length from by omega)
                      replace q95 := eq_true q95
                      try go_wp2_with (first | ((with_reducible refine gate_callee (f := 19) rfl ?_); refine goesL_ (some 67) rfl rfl Try.func19 (by kernel_rfl) rfl #[.slice A95 y361.length c95] rfl (by (try simp only [List.map_toArray, List.map_cons, List.map_nil]); first | done | rfl | (simp only [List.length_drop, List.length_take]; rfl)) ?_; (with_reducible refine (utf_Decode.calls kj8 _ _ y361 t365 t366 t367 _ ?side1 ?side2 A28.out).mono ?_); (case side1 => repeat (first | exact (by repeat (first | (with_reducible exact HR364.out) | (with_reducible refine Kd.C_alloc ?_ _) | (with_reducible refine Kd.C_drewN ?_ _) | (with_reducible refine Kd.C_drew ?_) | exact HR364.out)) | (with_reducible refine Kd.C_alloc ?_ _) | (with_reducible refine Kd.C_drewN ?_ _) | (with_reducible refine Kd.C_drew ?_))); (case side2 => exact HC364.out); rintro e w96 ⟨v368, rfl, ho0, hb⟩; refine ⟨_, rfl, ?_⟩; have n0_ := Aside0.mk (Kd.R_below (by (with_reducible repeat (first | apply Kd.R_alloc | apply Kd.R_drewN | apply Kd.R_drew)); exact HO_8.out) hb); have n1_ := Aside0.mk (Kd.R_below (by (with_reducible repeat (first | apply Kd.R_alloc | apply Kd.R_drewN | apply Kd.R_drew)); exact HO_10.out) hb); have n2_ := Aside0.mk (Kd.R_below (by (with_reducible repeat (first | apply Kd.R_alloc | apply Kd.R_drewN | apply Kd.R_drew)); exact HO355.out) hb); have n3_ := Aside0.mk (Kd.R_elder' (by (with_reducible repeat (first | apply Kd.R_alloc | apply Kd.R_drewN | apply Kd.R_drew)); exact HO360.out) (Kd.R_base ho0) hb); have n4_ := Aside0.mk (Kd.R_lower (Kd.R_new' ho0 (Kd.R_lt (by (with_reducible repeat (first | apply Kd.R_alloc | apply Kd.R_drewN | apply Kd.R_drew)); exact HO360.out))) (below_size (by repeat (first | (with_reducible first | exact HB.out | apply below_alloc | apply pw_below_drewN | apply below_drew1) | exact HB.out)))); have n5_ := Aside0.mk (Kd.C_below (by repeat (first | (with_reducible exact HR352.out) | (with_reducible refine Kd.C_alloc ?_ _) | (with_reducible refine Kd.C_drewN ?_ _) | (with_reducible refine Kd.C_drew ?_) | exact HR352.out)) hb); have n6_ := Aside0.mk (Kd.C_below (by repeat (first | (with_reducible exact HR364.out) | (with_reducible refine Kd.C_alloc ?_ _) | (with_reducible refine Kd.C_drewN ?_ _) | (with_reducible refine Kd.C_drew ?_) | exact HR364.out)) hb); have n7_ := Aside0.mk (below_step (by repeat (first | (with_reducible first | exact HB.out | apply below_alloc | apply pw_below_drewN | apply below_drew1) | exact HB.out)) hb); clear HO_8; clear HO_10; clear HO355; clear HO360; clear HR352; clear HR364; clear HB; have HO_8 := n0_; have HO_10 := n1_; have HO355 := n2_; have HO360 := n3_; have HO369 := n4_; have HR352 := n5_; have HR364 := n6_; have HB := n7_; clear n0_ n1_ n2_ n3_ n4_ n5_ n6_ n7_; (try clear hb); (try clear hb2); (try clear hk); (try clear hi); (try clear ho0)))
                      go_ret
                      exact ⟨by first | rfl | (simp [errW_none, errW_some] <;> rfl) | (simp [*, errW_none, errW_some] <;> rfl), by repeat (first | (with_reducible first | exact HB.out | apply below_alloc | apply pw_below_drewN | apply below_drew1) | exact HB.out)⟩
                  · replace c29 := Bool.eq_false_iff.mpr c29
                    subst c29
                    have H1 : (some false) = some r := by rw [if_neg (show ¬ (false = true) by decide)] at H; exact H
                    clear H
                    have H := H1
                    clear H1
                    obtain rfl := Option.some.inj H
                    try go_wp2
                    have n0_ := Aside0.mk (Kd.R_drew HO_8.out)
                    have n1_ := Aside0.mk (Kd.R_drew HO_10.out)
                    have n2_ := Aside0.mk (below_drew1 HB.out)
                    clear HO_8
                    clear HO_10
                    clear HB
                    have HO_8 := n0_
                    have HO_10 := n1_
                    have HB := n2_
                    clear n0_ n1_ n2_
                    obtain ⟨Ao99, co99, eo99⟩ := Kd.R_slice HO_10.out
                    (first | subst eo99 | (injection eo99 with f1_ f2_ f3_; have f4_ := f1_.symm; have f5_ := f3_.symm; clear f1_ f2_ f3_; subst f4_; subst f5_))
                    have q98 : (a2 : Int) ≤ ((t339.length : Int) : Int) := of_decide_eq_true (by first | (with_reducible assumption) | assumption)
                    obtain ⟨i098, hi098, _, hsz98, _⟩ := info_parts info5
                    have hroom98 : t339.length ≤ co99 := (Kd.R_reads' HO_10.out).2.1
                    have hC98 : Kd.C (Kd.int .u8) _ Ao99 t339.length t339 := (Kd.R_reads' HO_10.out).2.2
                    have hcut98 := cut_to (P := Try.prog) 28 5 .i64 Try.underlying28 hi098 Ao99 t339.length co99 a2 (of_decide_eq_true (by first | (with_reducible assumption) | assumption)) q98 hroom98
                    have hr98 := Kd.C_take (m := (a2 : Int).toNat) hC98 (by omega)
                    have hy98 : y349.length = (a2 : Int).toNat := (by rw [Ny349.out, List.length_take]; omega)
                    rw [← Ny349.out] at hr98
                    rw [← hy98] at hcut98
                    have HR352 := Aside0.mk hr98
                    have HC352 := Aside0.mk (show y349.length ≤ co99 from by omega)
                    clear hr98 hC98 hroom98 hi098 hsz98
                    have KY98 := Aside0.mk hy98
                    clear hy98
                    have KL98 := Aside0.mk (show (a2 : Int).toNat ≤ t339.length from by omega)
                    replace q98 := eq_true q98
                    refine start_ (n := 15) (S := fun w' => True) (ds := []) #[false, false, false, false, false, false, false, false, false, false, false, false, false, false, false] (by kernel_rfl) rfl rfl trivial (fun hHeld => ?_); refine with_tabW exerguelaw01_UtfHeads.tab8 exerguelaw01_UtfHeads.bits8 (fun HT_ HW_ => ?_)
                    generalize wc.drew = w97 at HO_8 HO_10 HB HR352 hHeld ⊢
                    refine pure_ (i := 1) (N := some 53) (v := ?_) (a' := ?_) #[false, true, false, false, false, false, false, false, false, false, false, false, false, false, false] rfl rfl (any_of HT_.out (by kernel_rfl)) (fun _ _ _ h => h) (Or.inl ⟨by rfl, ?_⟩) ?_ ?_
                    rotate_left
                    · intro w'
                      go_simp
                      with_reducible rfl
                    rotate_left
                    · simp only [Act.put, List.setIfInBounds_toArray, List.set_cons_zero, List.set_cons_succ, i64_w, i32_w]
                      rfl
                    refine pure_ (i := 3) (N := some 55) (v := ?_) (a' := ?_) #[false, true, false, true, false, false, false, false, false, false, false, false, false, false, false] rfl rfl (any_of HT_.out (by kernel_rfl)) (fun _ _ _ h => h) (Or.inl ⟨by rfl, ?_⟩) ?_ ?_
                    rotate_left
                    · intro w'
                      go_simp
                      with_reducible rfl
                    rotate_left
                    · simp only [Act.put, List.setIfInBounds_toArray, List.set_cons_zero, List.set_cons_succ, i64_w, i32_w]
                      rfl
                    refine pure_ (i := 4) (N := some 56) (v := ?_) (a' := ?_) #[false, true, false, true, true, false, false, false, false, false, false, false, false, false, false] rfl rfl (any_of HT_.out (by kernel_rfl)) (fun _ _ _ h => h) (Or.inl ⟨by rfl, ?_⟩) ?_ ?_
                    rotate_left
                    · intro w'
                      go_simp
                      with_reducible rfl
                    rotate_left
                    · simp only [Act.put, List.setIfInBounds_toArray, List.set_cons_zero, List.set_cons_succ, i64_w, i32_w]
                      rfl
                    refine pure_ (i := 5) (N := some 57) (v := ?_) (a' := ?_) #[false, true, false, true, true, true, false, false, false, false, false, false, false, false, false] rfl rfl (any_of HT_.out (by kernel_rfl)) (fun _ _ _ h => h) (Or.inl ⟨by rfl, ?_⟩) ?_ ?_
                    rotate_left
                    · intro w'
                      go_simp
                      with_reducible rfl
                    rotate_left
                    · simp only [Act.put, List.setIfInBounds_toArray, List.set_cons_zero, List.set_cons_succ, i64_w, i32_w]
                      rfl
                    refine one_ (i := 0) (N := some 52) #[true, true, false, true, true, true, false, false, false, false, false, false, false, false, false] rfl rfl (one_of HT_.out (by kernel_rfl)) (by decide) (fun K hK => ?_)
                    refine Kd.R_lit_step (Kd.int .u8) _ 5 ?hg (N := 52) ?hd (xs := ([] : List Int)) (inner := []) (ok := fun _ => True) (okp := fun _ => True) ?hr ?hp (fun _ hk => hk) trivial (Below.refl _ _) (Nat.le_refl _) (by simp) ?_; (case hd => rfl); (case hg => rfl); (case hr => first | (go_simp; done) | (go_simp; rfl)); (case hp => exact (Reps.none _ _))
                    intro v344 w100 ho101 hb hg_ hnew_
                    clear hg_ hnew_
                    (first | rw [← Ny343.out] at ho101 | (simp only [Int.reduceToNat] at ho101; rw [← Ny343.out] at ho101))
                    have n0_ := Aside0.mk (Kd.R_elder' (by (with_reducible repeat (first | apply Kd.R_alloc | apply Kd.R_drewN | apply Kd.R_drew)); exact HO_8.out) (Kd.R_base ho101) hb)
                    have n1_ := Aside0.mk (Kd.R_elder' (by (with_reducible repeat (first | apply Kd.R_alloc | apply Kd.R_drewN | apply Kd.R_drew)); exact HO_10.out) (Kd.R_base ho101) hb)
                    have n2_ := Aside0.mk (Kd.R_lower (Kd.R_new' (Kd.R_new' ho101 (Kd.R_lt (by (with_reducible repeat (first | apply Kd.R_alloc | apply Kd.R_drewN | apply Kd.R_drew)); exact HO_8.out))) (Kd.R_lt (by (with_reducible repeat (first | apply Kd.R_alloc | apply Kd.R_drewN | apply Kd.R_drew)); exact HO_10.out))) (below_size (by repeat (first | (with_reducible first | exact HB.out | apply below_alloc | apply pw_below_drewN | apply below_drew1) | exact HB.out))))
                    have n3_ := Aside0.mk (Kd.C_below (by repeat (first | (with_reducible exact HR352.out) | (with_reducible refine Kd.C_alloc ?_ _) | (with_reducible refine Kd.C_drewN ?_ _) | (with_reducible refine Kd.C_drew ?_) | exact HR352.out)) hb)
                    have n4_ := Aside0.mk (below_step (by repeat (first | (with_reducible first | exact HB.out | apply below_alloc | apply pw_below_drewN | apply below_drew1) | exact HB.out)) hb)
                    clear HO_8
                    clear HO_10
                    clear HR352
                    clear HB
                    have HO_8 := n0_
                    have HO_10 := n1_
                    have HO345 := n2_
                    have HR352 := n3_
                    have HB := n4_
                    clear n0_ n1_ n2_ n3_ n4_
                    clear hb ho101
                    obtain ⟨Ao103, co103, eo103⟩ := Kd.R_slice HO_8.out
                    (first | subst eo103 | (injection eo103 with f1_ f2_ f3_; have f4_ := f1_.symm; have f5_ := f3_.symm; clear f1_ f2_ f3_; subst f4_; subst f5_))
                    refine hK.out _ _ trivial (fun hHeld => ?_)
                    clear hK K
                    refine norm_ (a' := ?_) ?_ ?_
                    rotate_left
                    · show Act.put _ (some 52) _ = _
                      simp only [Act.put, List.setIfInBounds_toArray, List.set_cons_zero, List.set_cons_succ, i64_w, i32_w]
                      rfl
                    refine one_ (i := 2) (N := some 54) #[true, true, true, true, true, true, false, false, false, false, false, false, false, false, false] rfl rfl (one_of HT_.out (by kernel_rfl)) (by decide) (fun K hK => ?_)
                    refine Kd.R_append_rows_step (Kd.int .u8) (w0 := w) w.heap.size (by rfl) (.tmp 52) (.tmp 53) 28 5 (.int .u8 0) 1 rfl Try.underlying28 info5 rfl (by decide) (by omega) v344 y343 t332 _ _ _ (fun k_ => some k_ ≠ (.slice Ao103 t332.length co103 : Value).ownBlock ∧ some k_ ≠ (.slice Ao99 t339.length co99 : Value).ownBlock) (fun _ => False) rfl rfl ?aO ?aR (fun _ _ h => h) (fun _ h => h.elim) ?aF ?aB ?aS ?aL ?_
                    (case aR => repeat (first | exact (Kd.R_reads' HO_8.out).2.2 | (with_reducible refine Kd.C_alloc ?_ _) | (with_reducible refine Kd.C_drewN ?_ _) | (with_reducible refine Kd.C_drew ?_)))
                    (case aB => exact (by repeat (first | (with_reducible first | exact HB.out | apply below_alloc | apply pw_below_drewN | apply below_drew1) | exact HB.out)))
                    (case aF => exact (fun k_ hk => ⟨Kd.fresh' (Kd.R_lt (by (with_reducible repeat (first | apply Kd.R_alloc | apply Kd.R_drewN | apply Kd.R_drew)); exact HO_8.out)) k_ hk, Kd.fresh' (Kd.R_lt (by (with_reducible repeat (first | apply Kd.R_alloc | apply Kd.R_drewN | apply Kd.R_drew)); exact HO_10.out)) k_ hk⟩))
                    (case aO => exact (by (with_reducible repeat (first | apply Kd.R_alloc | apply Kd.R_drewN | apply Kd.R_drew)); exact Kd.R_mono HO345.out (fun _ hk => ⟨hk.1.2, hk.2⟩)))
                    (case aS => exact (below_size (by repeat (first | (with_reducible first | exact HB.out | apply below_alloc | apply pw_below_drewN | apply below_drew1) | exact HB.out))))
                    (case aL => have := LMc21.out; omega)
                    intro v347 w102 ho hb hg hat
                    rw [← Ny346.out] at ho
                    have n0_ := Aside0.mk (Kd.R_after (ok := (fun k_ => some k_ ≠ (.slice Ao99 t339.length co99 : Value).ownBlock)) (by (with_reducible repeat (first | apply Kd.R_alloc | apply Kd.R_drewN | apply Kd.R_drew)); exact HO_8.out) hg hat)
                    have n1_ := Aside0.mk (Kd.R_after (ok := (fun k_ => some k_ ≠ (.slice Ao103 t332.length co103 : Value).ownBlock)) (by (with_reducible repeat (first | apply Kd.R_alloc | apply Kd.R_drewN | apply Kd.R_drew)); exact HO_10.out) hg hat)
                    have n2_ := Aside0.mk (hb)
                    have n3_ := Aside0.mk ((show Kd.C (Kd.int .u8) w102 Ao99 y349.length y349 from by rw [Ny349.out]; exact Kd.C_take (m := (a2 : Int).toNat) ((Kd.R_reads' (Kd.R_after (ok := (fun k_ => some k_ ≠ (.slice Ao103 t332.length co103 : Value).ownBlock)) (by (with_reducible repeat (first | apply Kd.R_alloc | apply Kd.R_drewN | apply Kd.R_drew)); exact HO_10.out) hg hat)).2.2) KL98.out))
                    have n4_ := Aside0.mk (ho)
                    clear HO_8
                    clear HO_10
                    clear HB
                    clear HR352
                    clear HO345
                    have HO_8 := n0_
                    have HO_10 := n1_
                    have HB := n2_
                    have HR352 := n3_
                    have HO348 := n4_
                    clear n0_ n1_ n2_ n3_ n4_
                    clear ho hb hg hat
                    refine hK.out _ _ trivial (fun hHeld => ?_)
                    clear hK K
                    refine norm_ (a' := ?_) ?_ ?_
                    rotate_left
                    · show Act.put _ (some 54) _ = _
                      simp only [Act.put, List.setIfInBounds_toArray, List.set_cons_zero, List.set_cons_succ, i64_w, i32_w]
                      rfl
                    refine one_ (i := 6) (N := some 58) #[true, true, true, true, true, true, true, false, false, false, false, false, false, false, false] rfl rfl (one_of HT_.out (by kernel_rfl)) (by decide) (fun K hK => ?_)
                    refine Kd.R_append_rows_step (Kd.int .u8) (w0 := w) w.heap.size (by rfl) (.tmp 54) (.tmp 57) 28 5 (.int .u8 0) 1 rfl Try.underlying28 info5 rfl (by decide) (by omega) v347 y346 y349 _ _ _ (fun k_ => some k_ ≠ (.slice Ao103 t332.length co103 : Value).ownBlock ∧ some k_ ≠ (.slice Ao99 t339.length co99 : Value).ownBlock) (fun _ => False) rfl rfl ?aO ?aR (fun _ _ h => h) (fun _ h => h.elim) ?aF ?aB ?aS ?aL ?_
                    (case aR => repeat (first | exact (by repeat (first | (with_reducible exact HR352.out) | (with_reducible refine Kd.C_alloc ?_ _) | (with_reducible refine Kd.C_drewN ?_ _) | (with_reducible refine Kd.C_drew ?_) | exact HR352.out)) | (with_reducible refine Kd.C_alloc ?_ _) | (with_reducible refine Kd.C_drewN ?_ _) | (with_reducible refine Kd.C_drew ?_)))
                    (case aB => exact (by repeat (first | (with_reducible first | exact HB.out | apply below_alloc | apply pw_below_drewN | apply below_drew1) | exact HB.out)))
                    (case aF => exact (fun k_ hk => ⟨Kd.fresh' (Kd.R_lt (by (with_reducible repeat (first | apply Kd.R_alloc | apply Kd.R_drewN | apply Kd.R_drew)); exact HO_8.out)) k_ hk, Kd.fresh' (Kd.R_lt (by (with_reducible repeat (first | apply Kd.R_alloc | apply Kd.R_drewN | apply Kd.R_drew)); exact HO_10.out)) k_ hk⟩))
                    (case aO => exact (by (with_reducible repeat (first | apply Kd.R_alloc | apply Kd.R_drewN | apply Kd.R_drew)); exact HO348.out))
                    (case aS => exact (below_size (by repeat (first | (with_reducible first | exact HB.out | apply below_alloc | apply pw_below_drewN | apply below_drew1) | exact HB.out))))
                    (case aL => have := LMc24.out; omega)
                    intro v354 w104 ho hb hg hat
                    rw [← Ny353.out] at ho
                    have n0_ := Aside0.mk (Kd.R_after (ok := (fun k_ => some k_ ≠ (.slice Ao99 t339.length co99 : Value).ownBlock)) (by (with_reducible repeat (first | apply Kd.R_alloc | apply Kd.R_drewN | apply Kd.R_drew)); exact HO_8.out) hg hat)
                    have n1_ := Aside0.mk (Kd.R_after (ok := (fun k_ => some k_ ≠ (.slice Ao103 t332.length co103 : Value).ownBlock)) (by (with_reducible repeat (first | apply Kd.R_alloc | apply Kd.R_drewN | apply Kd.R_drew)); exact HO_10.out) hg hat)
                    have n2_ := Aside0.mk (hb)
                    have n3_ := Aside0.mk ((show Kd.C (Kd.int .u8) w104 Ao99 y349.length y349 from by rw [Ny349.out]; exact Kd.C_take (m := (a2 : Int).toNat) ((Kd.R_reads' (Kd.R_after (ok := (fun k_ => some k_ ≠ (.slice Ao103 t332.length co103 : Value).ownBlock)) (by (with_reducible repeat (first | apply Kd.R_alloc | apply Kd.R_drewN | apply Kd.R_drew)); exact HO_10.out) hg hat)).2.2) KL98.out))
                    have n4_ := Aside0.mk (ho)
                    clear HO_8
                    clear HO_10
                    clear HB
                    clear HR352
                    clear HO348
                    have HO_8 := n0_
                    have HO_10 := n1_
                    have HB := n2_
                    have HR352 := n3_
                    have HO355 := n4_
                    clear n0_ n1_ n2_ n3_ n4_
                    clear ho hb hg hat
                    obtain ⟨Ao105, co105, eo105⟩ := Kd.R_slice HO355.out
                    (first | subst eo105 | (injection eo105 with f1_ f2_ f3_; have f4_ := f1_.symm; have f5_ := f3_.symm; clear f1_ f2_ f3_; subst f4_; subst f5_))
                    refine hK.out _ _ trivial (fun hHeld => ?_)
                    clear hK K
                    refine norm_ (a' := ?_) ?_ ?_
                    rotate_left
                    · show Act.put _ (some 58) _ = _
                      simp only [Act.put, List.setIfInBounds_toArray, List.set_cons_zero, List.set_cons_succ, i64_w, i32_w]
                      rfl
                    refine one_ (i := 7) (N := some 59) #[true, true, true, true, true, true, true, true, false, false, false, false, false, false, false] rfl rfl (one_of HT_.out (by kernel_rfl)) (by decide) (fun K hK => ?_)
                    refine goes_ Try.func19 (by kernel_rfl) rfl #[.slice Ao105 y353.length co105] (by rfl) rfl rfl (by (try simp only [List.map_toArray, List.map_cons, List.map_nil]); first | done | rfl | (simp only [List.length_drop, List.length_take]; rfl)) ?_
                    with_reducible refine (utf_Decode.calls kj8 _ _ y353 t356 t357 t358 _ ?side1 ?side2 A25.out).mono ?_
                    (case side1 => repeat (first | exact (Kd.R_reads' HO355.out).2.2 | (with_reducible refine Kd.C_alloc ?_ _) | (with_reducible refine Kd.C_drewN ?_ _) | (with_reducible refine Kd.C_drew ?_)))
                    (case side2 => exact (Kd.R_reads' HO355.out).2.1)
                    rintro e w106 ⟨v359, rfl, ho0, hb⟩
                    refine ⟨_, rfl, ?_⟩
                    have n0_ := Aside0.mk (Kd.R_below (by (with_reducible repeat (first | apply Kd.R_alloc | apply Kd.R_drewN | apply Kd.R_drew)); exact HO_8.out) hb)
                    have n1_ := Aside0.mk (Kd.R_below (by (with_reducible repeat (first | apply Kd.R_alloc | apply Kd.R_drewN | apply Kd.R_drew)); exact HO_10.out) hb)
                    have n2_ := Aside0.mk (Kd.R_below (by (with_reducible repeat (first | apply Kd.R_alloc | apply Kd.R_drewN | apply Kd.R_drew)); exact HO355.out) hb)
                    have n3_ := Aside0.mk (Kd.R_lower ho0 (below_size (by repeat (first | (with_reducible first | exact HB.out | apply below_alloc | apply pw_below_drewN | apply below_drew1) | exact HB.out))))
                    have n4_ := Aside0.mk (Kd.C_below (by repeat (first | (with_reducible exact HR352.out) | (with_reducible refine Kd.C_alloc ?_ _) | (with_reducible refine Kd.C_drewN ?_ _) | (with_reducible refine Kd.C_drew ?_) | exact HR352.out)) hb)
                    have n5_ := Aside0.mk (below_step (by repeat (first | (with_reducible first | exact HB.out | apply below_alloc | apply pw_below_drewN | apply below_drew1) | exact HB.out)) hb)
                    clear HO_8
                    clear HO_10
                    clear HO355
                    clear HR352
                    clear HB
                    have HO_8 := n0_
                    have HO_10 := n1_
                    have HO355 := n2_
                    have HO360 := n3_
                    have HR352 := n4_
                    have HB := n5_
                    clear n0_ n1_ n2_ n3_ n4_ n5_
                    (try clear hb)
                    (try clear hb2)
                    (try clear hk)
                    (try clear hi)
                    (try clear ho0)
                    refine hK.out _ _ trivial (fun hHeld => ?_)
                    clear hK K
                    refine norm_ (a' := ?_) ?_ ?_
                    rotate_left
                    · show Act.put _ (some 59) _ = _
                      simp only [Act.put, List.setIfInBounds_toArray, List.set_cons_zero, List.set_cons_succ, i64_w, i32_w]
                      rfl
                    refine pure_ (i := 8) (N := some 51) (v := ?_) (a' := ?_) #[true, true, true, true, true, true, true, true, true, false, false, false, false, false, false] rfl rfl (any_of HT_.out (by kernel_rfl)) (fun _ _ _ h => h) (Or.inl ⟨by rfl, ?_⟩) ?_ ?_
                    rotate_left
                    · intro w'
                      go_simp
                      with_reducible rfl
                    rotate_left
                    · simp only [Act.put, List.setIfInBounds_toArray, List.set_cons_zero, List.set_cons_succ, i64_w, i32_w]
                      rfl
                    refine pure_ (i := 9) (N := some 60) (v := ?_) (a' := ?_) #[true, true, true, true, true, true, true, true, true, true, false, false, false, false, false] rfl rfl (any_of HT_.out (by kernel_rfl)) (fun _ _ _ h => h) (Or.inl ⟨by rfl, ?_⟩) ?_ ?_
                    rotate_left
                    · intro w'
                      go_simp
                      with_reducible rfl
                    rotate_left
                    · simp only [Act.put, List.setIfInBounds_toArray, List.set_cons_zero, List.set_cons_succ, i64_w, i32_w]
                      rfl
                    refine pure_ (i := 10) (N := some 61) (v := ?_) (a' := ?_) #[true, true, true, true, true, true, true, true, true, true, true, false, false, false, false] rfl rfl (any_of HT_.out (by kernel_rfl)) (fun _ _ _ h => h) (Or.inl ⟨by rfl, ?_⟩) ?_ ?_
                    rotate_left
                    · intro w'
                      go_simp
                      with_reducible rfl
                    rotate_left
                    · simp only [Act.put, List.setIfInBounds_toArray, List.set_cons_zero, List.set_cons_succ, i64_w, i32_w]
                      rfl
                    refine pure_ (i := 11) (N := some 62) (v := ?_) (a' := ?_) #[true, true, true, true, true, true, true, true, true, true, true, true, false, false, false] rfl rfl (any_of HT_.out (by kernel_rfl)) (fun _ _ _ h => h) (Or.inl ⟨by rfl, ?_⟩) ?_ ?_
                    rotate_left
                    · intro w'
                      go_simp
                      with_reducible rfl
                    rotate_left
                    · simp only [Act.put, List.setIfInBounds_toArray, List.set_cons_zero, List.set_cons_succ, i64_w, i32_w]
                      rfl
                    refine pure_ (i := 12) (N := some 12) (v := ?_) (a' := ?_) #[true, true, true, true, true, true, true, true, true, true, true, true, true, false, false] rfl rfl (any_of HT_.out (by kernel_rfl)) (fun _ _ _ h => h) (Or.inl ⟨by rfl, ?_⟩) ?_ ?_
                    rotate_left
                    · intro w'
                      go_simp
                      with_reducible rfl
                    rotate_left
                    · simp only [Act.put, List.setIfInBounds_toArray, List.set_cons_zero, List.set_cons_succ, i64_w, i32_w]
                      rfl
                    refine pure_ (i := 13) (N := some 13) (v := ?_) (a' := ?_) #[true, true, true, true, true, true, true, true, true, true, true, true, true, true, false] rfl rfl (any_of HT_.out (by kernel_rfl)) (fun _ _ _ h => h) (Or.inl ⟨by rfl, ?_⟩) ?_ ?_
                    rotate_left
                    · intro w'
                      go_simp
                      with_reducible rfl
                    rotate_left
                    · simp only [Act.put, List.setIfInBounds_toArray, List.set_cons_zero, List.set_cons_succ, i64_w, i32_w]
                      rfl
                    refine pure_ (i := 14) (N := some 14) (v := ?_) (a' := ?_) #[true, true, true, true, true, true, true, true, true, true, true, true, true, true, true] rfl rfl (any_of HT_.out (by kernel_rfl)) (fun _ _ _ h => h) (Or.inl ⟨by rfl, ?_⟩) ?_ ?_
                    rotate_left
                    · intro w'
                      go_simp
                      with_reducible rfl
                    rotate_left
                    · simp only [Act.put, List.setIfInBounds_toArray, List.set_cons_zero, List.set_cons_succ, i64_w, i32_w]
                      rfl
                    refine done_ (done_of HT_.out (by kernel_rfl)) ?_
                    have q107 : (a2 : Int) ≤ ((t339.length : Int) : Int) := of_decide_eq_true (by first | (with_reducible assumption) | assumption)
                    obtain ⟨i0107, hi0107, _, hsz107, _⟩ := info_parts info5
                    have hroom107 : t339.length ≤ co99 := (Kd.R_reads' HO_10.out).2.1
                    have hC107 : Kd.C (Kd.int .u8) _ Ao99 t339.length t339 := (Kd.R_reads' HO_10.out).2.2
                    have q0107 : (0 : Int) ≤ (a2 : Int) := of_decide_eq_true (by first | (with_reducible assumption) | assumption)
                    have hcut107 := cut_from (P := Try.prog) 28 5 .i64 Try.underlying28 hi0107 1 hsz107 Ao99 t339.length co99 a2 q0107 q107
                    have hr107 := Kd.C_drop (m := (a2 : Int).toNat) (c := co99) hC107 (by omega) hroom107
                    obtain ⟨A107, hA107⟩ : ∃ A1, A1 = (if co99 = (a2 : Int).toNat then Ao99 else (Ao99 : Option Addr).map (·.add ((a2 : Int).toNat * 1))) := ⟨_, rfl⟩
                    obtain ⟨c107, hc107⟩ : ∃ c1, c1 = co99 - (a2 : Int).toNat := ⟨_, rfl⟩
                    have hy107 : y361.length = t339.length - (a2 : Int).toNat := (by rw [Ny361.out, List.length_drop] <;> omega)
                    rw [show (t339).drop (a2 : Int).toNat = y361 from Ny361.out.symm] at hr107
                    replace hr107 : Kd.C (Kd.int .u8) _ A107 y361.length y361 := (by rw [hA107]; exact hr107)
                    rw [← hy107, ← hA107, ← hc107] at hcut107
                    have HR364 := Aside0.mk hr107
                    have HC364 := Aside0.mk (show y361.length ≤ c107 from by rw [hy107, hc107]; exact Nat.sub_le_sub_right hroom107 _)
                    clear hr107 hC107 hroom107 hi0107 hsz107 hc107
                    have KY107 := Aside0.mk hy107
                    have KA107 := Aside0.mk hA107
                    clear hy107 hA107
                    have KL107 := Aside0.mk (show (a2 : Int).toNat ≤ t339.length from by omega)
                    replace q107 := eq_true q107
                    try go_wp2_with (first | ((with_reducible refine gate_callee (f := 19) rfl ?_); refine goesL_ (some 67) rfl rfl Try.func19 (by kernel_rfl) rfl #[.slice A107 y361.length c107] rfl (by (try simp only [List.map_toArray, List.map_cons, List.map_nil]); first | done | rfl | (simp only [List.length_drop, List.length_take]; rfl)) ?_; (with_reducible refine (utf_Decode.calls kj8 _ _ y361 t365 t366 t367 _ ?side1 ?side2 A28.out).mono ?_); (case side1 => repeat (first | exact (by repeat (first | (with_reducible exact HR364.out) | (with_reducible refine Kd.C_alloc ?_ _) | (with_reducible refine Kd.C_drewN ?_ _) | (with_reducible refine Kd.C_drew ?_) | exact HR364.out)) | (with_reducible refine Kd.C_alloc ?_ _) | (with_reducible refine Kd.C_drewN ?_ _) | (with_reducible refine Kd.C_drew ?_))); (case side2 => exact HC364.out); rintro e w108 ⟨v368, rfl, ho0, hb⟩; refine ⟨_, rfl, ?_⟩; have n0_ := Aside0.mk (Kd.R_below (by (with_reducible repeat (first | apply Kd.R_alloc | apply Kd.R_drewN | apply Kd.R_drew)); exact HO_8.out) hb); have n1_ := Aside0.mk (Kd.R_below (by (with_reducible repeat (first | apply Kd.R_alloc | apply Kd.R_drewN | apply Kd.R_drew)); exact HO_10.out) hb); have n2_ := Aside0.mk (Kd.R_below (by (with_reducible repeat (first | apply Kd.R_alloc | apply Kd.R_drewN | apply Kd.R_drew)); exact HO355.out) hb); have n3_ := Aside0.mk (Kd.R_elder' (by (with_reducible repeat (first | apply Kd.R_alloc | apply Kd.R_drewN | apply Kd.R_drew)); exact HO360.out) (Kd.R_base ho0) hb); have n4_ := Aside0.mk (Kd.R_lower (Kd.R_new' ho0 (Kd.R_lt (by (with_reducible repeat (first | apply Kd.R_alloc | apply Kd.R_drewN | apply Kd.R_drew)); exact HO360.out))) (below_size (by repeat (first | (with_reducible first | exact HB.out | apply below_alloc | apply pw_below_drewN | apply below_drew1) | exact HB.out)))); have n5_ := Aside0.mk (Kd.C_below (by repeat (first | (with_reducible exact HR352.out) | (with_reducible refine Kd.C_alloc ?_ _) | (with_reducible refine Kd.C_drewN ?_ _) | (with_reducible refine Kd.C_drew ?_) | exact HR352.out)) hb); have n6_ := Aside0.mk (Kd.C_below (by repeat (first | (with_reducible exact HR364.out) | (with_reducible refine Kd.C_alloc ?_ _) | (with_reducible refine Kd.C_drewN ?_ _) | (with_reducible refine Kd.C_drew ?_) | exact HR364.out)) hb); have n7_ := Aside0.mk (below_step (by repeat (first | (with_reducible first | exact HB.out | apply below_alloc | apply pw_below_drewN | apply below_drew1) | exact HB.out)) hb); clear HO_8; clear HO_10; clear HO355; clear HO360; clear HR352; clear HR364; clear HB; have HO_8 := n0_; have HO_10 := n1_; have HO355 := n2_; have HO360 := n3_; have HO369 := n4_; have HR352 := n5_; have HR364 := n6_; have HB := n7_; clear n0_ n1_ n2_ n3_ n4_ n5_ n6_ n7_; (try clear hb); (try clear hb2); (try clear hk); (try clear hi); (try clear ho0)))
                    go_ret
                    exact ⟨by first | rfl | (simp [errW_none, errW_some] <;> rfl) | (simp [*, errW_none, errW_some] <;> rfl), by repeat (first | (with_reducible first | exact HB.out | apply below_alloc | apply pw_below_drewN | apply below_drew1) | exact HB.out)⟩
                · rw [if_neg c24] at H
                  exact absurd H (by simp)
              · rw [if_neg c23] at H
                exact absurd H (by simp)
            · rw [if_neg c22] at H
              exact absurd H (by simp)
          · rw [if_neg c21] at H
            exact absurd H (by simp)

/-- THE ONE PURE STATEMENT of exerguelaw01_UtfHeads: yours. -/
def exerguelaw01_UtfHeads.Pure : Prop := ∀ (l0 : List Int) (a1 : Int) (a2 : Int), l0.length ≤ maxLen → l0.length * 4 ≤ 140737488351232 → (∀ x ∈ l0, (Lit.int .i32 x).wf = true) → (Lit.int .i32 a1).wf = true → (Lit.int .i64 a2).wf = true → ∃ k, exerguelaw01_UtfHeads.f k l0 a1 a2 = some true
theorem exerguelaw01_UtfHeads.walk (P : exerguelaw01_UtfHeads.Pure) (a0 : Option Addr) (len0 cap0 : Nat) (z0 : List Int) (a1 : Int) (a2 : Int) (w : World) (w0 : (a0 = none ∧ len0 = 0 ∧ cap0 = 0 ∧ z0 = []) ∨ ∃ x, a0 = some x ∧ len0 ≤ cap0 ∧ cap0 ≤ maxLen ∧ z0.length = cap0 ∧ (∀ i, i < z0.length → w.cell? (x.add i) = some (.int .i32 (z0.getD i 0))) ∧ ∀ n ∈ z0, (Lit.int .i32 n).wf = true) (y0 : len0 * 4 ≤ 140737488351232) (w1 : (Lit.int .i32 a1).wf = true) (w2 : (Lit.int .i64 a2).wf = true) :
    Calls Try.prog 8 #[.slice a0 len0 cap0, .int .i32 a1, .int .i64 a2] w fun e w' => e = .returned (.bool true) ∧ Below w.heap.size w w' := by
  obtain ⟨l0, rfl, hr0, hm0, hw0, hc0⟩ := ReadsInt.ofRowC w0
  obtain ⟨k, h⟩ := P l0 a1 a2 hm0 y0 hw0 w1 w2
  refine (exerguelaw01_UtfHeads.calls k _ _ l0 a1 a2 true w (Kd.C_of_reads (d := (0 : Int)) (h1 := fun _ => rfl) hr0) hc0 h).mono ?_
  rintro e w' ⟨rfl, hd⟩
  exact ⟨rfl, hd⟩

end Go.Proofs.Ytapjpcpaildccaa.Q
