/- Functions of the translation as plain Lean functions, each with a proof that the Go code comes to its answers, wherever the function has one; no other condition. Written by this session's own program (wip/myprint.py). -/
import Derived.Test.YtlmgpjeienhihaaQx0
import Derived.Test.YtlmgpjeienhihaaQx2
import Derived.Test.YtlmgpjeienhihaaQx7
import Derived.Test.YtlmgpjeienhihaaQx8
namespace Go.Proofs.Ytlmgpjeienhihaa.Q
open Go.RowKit Go.Proofs.Ytlmgpjeienhihaa.Mine Go.Proofs.YtlmgpjeienhihaaW.PrintWords Go.Proofs.YtlmgpjeienhihaaW.PrintLast Go.Proofs.YtlmgpjeienhihaaW.PrintMore
attribute [local go_sem] max2_int min2_int max_two min_two max_three min_three max_four min_four   -- for this text's walks alone
set_option linter.unusedVariables false
set_option linter.unusedSimpArgs false

/-! ### exerguelaw04_TankCounts: function 4 -/
mutual
def exerguelaw04_TankCounts.j0 : Nat → List Int → Bool → Bool → Int → Int → List Int → Option (Bool)
  | 0, _, _, _, _, _, _ => none
  | k + 1, x1, x5, x17, x203000, x203001, x203002 => if x17 = true then (some x5) else ((tank_Put.f k x203000 x203001 x203002 x1).bind fun bt205 => (if x203000 ≥ (x1.length : Int) then (exerguelaw04_TankCounts.j1 k x5 (x1.length : Int) bt205.2.2.2 ((bt205.2.2.2 == 0) != (decide (x203001 ≥ (x1.length : Int)))) x203000 x203001 x203002 bt205.1 bt205.2.1 bt205.2.2.1) else (exerguelaw04_TankCounts.j1 k x5 (x1.length : Int) bt205.2.2.2 ((bt205.2.2.2 == 0) != false) x203000 x203001 x203002 bt205.1 bt205.2.1 bt205.2.2.1)))
def exerguelaw04_TankCounts.j1 : Nat → Bool → Int → Int → Bool → Int → Int → List Int → Int → Int → List Int → Option (Bool)
  | 0, _, _, _, _, _, _, _, _, _, _ => none
  | k + 1, x5, x6, x8, x39, x203000, x203001, x203002, x212000, x212001, x212002 => if x39 = true then (some false) else (if x8 = 0 then (if x5 = true then (if x212000 = (wrap64 (x203000 - x6)) then (if x212001 = (wrap64 (x203001 - x6)) then (some ((x212002.length : Int) == (wrap64 ((x203002.length : Int) + x6)))) else (some false)) else (some false)) else (some false)) else (if x5 = true then (if x8 = 4 then (if x212000 = 0 then (if x203000 ≤ x203001 then (some true) else (if x8 = 5 then (if x212001 = 0 then (some (decide (x203000 > x203001))) else (some false)) else (some false))) else (if x8 = 5 then (if x212001 = 0 then (some (decide (x203000 > x203001))) else (some false)) else (some false))) else (if x8 = 5 then (if x212001 = 0 then (some (decide (x203000 > x203001))) else (some false)) else (some false))) else (some false)))
end
def exerguelaw04_TankCounts.f (k : Nat) (a0_0 : Int) (a0_1 : Int) (l0_2 : List Int) (l1 : List Int) : Option (Bool) := (exerguelaw04_shown.f k).bind fun t203 => ((exergueref04_Right.f a0_0 a0_1 l0_2).bind fun t204 => (if t204 = true then (exerguelaw04_TankCounts.j0 k l1 t203 (decide ((l1.length : Int) > 1000)) a0_0 a0_1 l0_2) else (exerguelaw04_TankCounts.j0 k l1 t203 true a0_0 a0_1 l0_2)))
theorem exerguelaw04_TankCounts.mono_l : ∀ k, (∀ y0 y1 y2 y3 y4 y5, LeO (exerguelaw04_TankCounts.j0 k y0 y1 y2 y3 y4 y5) (exerguelaw04_TankCounts.j0 (k + 1) y0 y1 y2 y3 y4 y5)) ∧ (∀ y0 y1 y2 y3 y4 y5 y6 y7 y8 y9, LeO (exerguelaw04_TankCounts.j1 k y0 y1 y2 y3 y4 y5 y6 y7 y8 y9) (exerguelaw04_TankCounts.j1 (k + 1) y0 y1 y2 y3 y4 y5 y6 y7 y8 y9))
  | 0 => ⟨fun _ _ _ _ _ _ r h => by simp [exerguelaw04_TankCounts.j0] at h, fun _ _ _ _ _ _ _ _ _ _ r h => by simp [exerguelaw04_TankCounts.j1] at h⟩
  | k + 1 => by
    obtain ⟨ih0, ih1⟩ := exerguelaw04_TankCounts.mono_l k
    refine ⟨?_, ?_⟩
    · intro y0 y1 y2 y3 y4 y5
      unfold exerguelaw04_TankCounts.j0
      repeat' first
      | (with_reducible exact ih0 _ _ _ _ _ _)
      | (with_reducible exact ih1 _ _ _ _ _ _ _ _ _ _)
      | (with_reducible exact exerguelaw04_shown.mono _)
      | (with_reducible exact tank_Put.mono _ _ _ _ _)
      | (with_reducible exact LeO.refl _)
      | (with_reducible exact LeO.none _)
      | (with_reducible refine LeO.ite ?_ ?_)
      | (with_reducible refine LeO.bind ?_ (fun _ => ?_))
      | exact ih0 _ _ _ _ _ _
      | exact ih1 _ _ _ _ _ _ _ _ _ _
      | exact exerguelaw04_shown.mono _
      | exact tank_Put.mono _ _ _ _ _
      | exact LeO.none _
      | refine LeO.ite ?_ ?_
      | refine LeO.bind ?_ (fun _ => ?_)
    · intro y0 y1 y2 y3 y4 y5 y6 y7 y8 y9
      unfold exerguelaw04_TankCounts.j1
      repeat' first
      | (with_reducible exact ih0 _ _ _ _ _ _)
      | (with_reducible exact ih1 _ _ _ _ _ _ _ _ _ _)
      | (with_reducible exact exerguelaw04_shown.mono _)
      | (with_reducible exact tank_Put.mono _ _ _ _ _)
      | (with_reducible exact LeO.refl _)
      | (with_reducible exact LeO.none _)
      | (with_reducible refine LeO.ite ?_ ?_)
      | (with_reducible refine LeO.bind ?_ (fun _ => ?_))
      | exact ih0 _ _ _ _ _ _
      | exact ih1 _ _ _ _ _ _ _ _ _ _
      | exact exerguelaw04_shown.mono _
      | exact tank_Put.mono _ _ _ _ _
      | exact LeO.none _
      | refine LeO.ite ?_ ?_
      | refine LeO.bind ?_ (fun _ => ?_)
theorem exerguelaw04_TankCounts.mono : ∀ a0 a1 a2 a3 k, LeO (exerguelaw04_TankCounts.f k a0 a1 a2 a3) (exerguelaw04_TankCounts.f (k + 1) a0 a1 a2 a3) := by
  intro a0 a1 a2 a3 k
  obtain ⟨ih0, ih1⟩ := exerguelaw04_TankCounts.mono_l k
  unfold exerguelaw04_TankCounts.f
  repeat' first
      | (with_reducible exact ih0 _ _ _ _ _ _)
      | (with_reducible exact ih1 _ _ _ _ _ _ _ _ _ _)
      | (with_reducible exact exerguelaw04_shown.mono _)
      | (with_reducible exact tank_Put.mono _ _ _ _ _)
      | (with_reducible exact LeO.refl _)
      | (with_reducible exact LeO.none _)
      | (with_reducible refine LeO.ite ?_ ?_)
      | (with_reducible refine LeO.bind ?_ (fun _ => ?_))
      | exact ih0 _ _ _ _ _ _
      | exact ih1 _ _ _ _ _ _ _ _ _ _
      | exact exerguelaw04_shown.mono _
      | exact tank_Put.mono _ _ _ _ _
      | exact LeO.none _
      | refine LeO.ite ?_ ?_
      | refine LeO.bind ?_ (fun _ => ?_)
set_option maxHeartbeats 8000000 in
set_option maxRecDepth 100000 in
theorem exerguelaw04_TankCounts.calls (k : Nat) (a0_0 : Int) (a0_1 : Int) (A0_2 : Option Addr) (c0_2 : Nat) (l0_2 : List Int) (A1 : Option Addr) (c1 : Nat) (l1 : List Int) (r : Bool) (w : World) (hr0_2 : Kd.C (Kd.int .i32) w A0_2 l0_2.length l0_2) (hc0_2 : l0_2.length ≤ c0_2) (hr1 : Kd.C (Kd.int .i32) w A1 l1.length l1) (hc1 : l1.length ≤ c1) (h : exerguelaw04_TankCounts.f k a0_0 a0_1 l0_2 l1 = some r) :
    Calls Try.prog 4 #[.agg #[.int .i64 a0_0, .int .i64 a0_1, .slice A0_2 l0_2.length c0_2], .slice A1 l1.length c1] w fun e w' => e = .returned (.bool r) ∧ Below w.heap.size w w' := by
  have hu24 := Try.underlying24
  have HR0_2 := Aside0.mk hr0_2
  have HC0_2 := Aside0.mk hc0_2
  clear hr0_2 hc0_2
  have HR1 := Aside0.mk hr1
  have HC1 := Aside0.mk hc1
  clear hr1 hc1
  have HB := Aside0.mk (Below.refl w.heap.size w)
  have H : ((exerguelaw04_shown.f k).bind fun t203 => ((exergueref04_Right.f a0_0 a0_1 l0_2).bind fun t204 => (if t204 = true then (exerguelaw04_TankCounts.j0 k l1 t203 (decide ((l1.length : Int) > 1000)) a0_0 a0_1 l0_2) else (exerguelaw04_TankCounts.j0 k l1 t203 true a0_0 a0_1 l0_2)))) = some r := h
  clear h
  replace H := Option.bind_eq_some_iff.mp H
  obtain ⟨t203, A30, H⟩ := H
  replace H : ((exergueref04_Right.f a0_0 a0_1 l0_2).bind fun t204 => (if t204 = true then (exerguelaw04_TankCounts.j0 k l1 t203 (decide ((l1.length : Int) > 1000)) a0_0 a0_1 l0_2) else (exerguelaw04_TankCounts.j0 k l1 t203 true a0_0 a0_1 l0_2))) = some r := H
  have A3 := Aside0.mk A30
  clear A30
  have HC4 := Aside0.mk H
  clear H
  go_enter Try.func4, Try.ntmps4
  go_upto_region 2 with (first | ((with_reducible refine gate_dst (N := 2) rfl ?_); (try (refine gate_guard (by rfl) ?_; dsimp only)); refine box_event ?hg (N := 2) ?hd (cs := #[.int .i64 a0_0, .int .i64 a0_1, .slice A0_2 l0_2.length c0_2]) (t := 24) ?hr ?_; (case hd => rfl); (case hg => rfl); (case hr => first | (go_simp; done) | (go_simp; rfl)); intro gb202 hg w5 hbox hb; have n0_ := Aside0.mk (below_step (by repeat (first | (with_reducible first | exact HB.out | apply below_alloc | apply pw_below_drewN | apply below_drew1) | exact HB.out)) hb); have n1_ := Aside0.mk (hbox); have n2_ := Aside0.mk ((by rw [hg]; exact (below_size (by repeat (first | (with_reducible first | exact HB.out | apply below_alloc | apply pw_below_drewN | apply below_drew1) | exact HB.out))) : w.heap.size ≤ gb202)); have n3_ := Aside0.mk ((by rw [hg]; exact (below_size (by repeat (first | (with_reducible first | exact HB.out | apply below_alloc | apply pw_below_drewN | apply below_drew1) | exact HB.out))) : w.heap.size ≤ gb202)); clear HB; have HB := n0_; have BK202 := n1_; have GW202 := n2_; have GE202 := n3_; clear n0_ n1_ n2_ n3_; clear hb hbox hg) | ((with_reducible refine gate_callee (f := 8) rfl ?_); refine goesL_ (some 9) rfl rfl Try.func8 (by kernel_rfl) rfl #[] rfl (by (try simp only [List.map_toArray, List.map_cons, List.map_nil]); first | done | rfl | (simp only [List.length_drop, List.length_take]; rfl)) ?_; (with_reducible refine (exerguelaw04_shown.calls k  t203 _ A3.out).mono ?_); rintro e w6 ⟨rfl, hb⟩; refine ⟨_, rfl, ?_⟩; have n0_ := Aside0.mk (blk_below (g := gb202) (o := .cells #[.int .i64 a0_0, .int .i64 a0_1, .slice A0_2 l0_2.length c0_2] 24 (0, 0)) (by (with_reducible repeat (first | refine blk_drewN ?_ _ | refine blk_drew ?_ | refine blk_alloc ?_ _)); exact BK202.out) hb); have n1_ := Aside0.mk (below_step (by repeat (first | (with_reducible first | exact HB.out | apply below_alloc | apply pw_below_drewN | apply below_drew1 | refine below_set ?_ GE202.out) | exact HB.out)) hb); clear BK202; clear HB; have BK202 := n0_; have HB := n1_; clear n0_ n1_; (try clear hb); (try clear hb2); (try clear hk); (try clear hi)))
  (try simp only [Act.put, List.setIfInBounds_toArray, List.set_cons_zero, List.set_cons_succ])
  go_cut [17] (fun v17 wc => ∃ (kq : Nat) (x17_3 : Bool), v17 = .bool x17_3 ∧ Aside0 (exerguelaw04_TankCounts.j0 kq l1 t203 x17_3 a0_0 a0_1 l0_2 = some r) ∧ Aside0 (kq ≤ k) ∧ Aside0 (wc.heap[gb202]? = some (.cells #[.int .i64 a0_0, .int .i64 a0_1, (.slice A0_2 l0_2.length c0_2)] 24 (0, 0))) ∧ Aside0 (Below w.heap.size w wc))
  case first =>
    have H := HC4.out
    clear HC4
    replace H := Option.bind_eq_some_iff.mp H
    obtain ⟨t204, A70, H⟩ := H
    replace H : (if t204 = true then (exerguelaw04_TankCounts.j0 k l1 t203 (decide ((l1.length : Int) > 1000)) a0_0 a0_1 l0_2) else (exerguelaw04_TankCounts.j0 k l1 t203 true a0_0 a0_1 l0_2)) = some r := H
    have A7 := Aside0.mk A70
    clear A70
    by_cases c8 : t204 = true
    · subst c8
      have H1 : (exerguelaw04_TankCounts.j0 k l1 t203 (decide ((l1.length : Int) > 1000)) a0_0 a0_1 l0_2) = some r := by rw [if_pos rfl] at H; exact H
      clear H
      have H := H1
      clear H1
      have H' := Aside0.mk H
      clear H
      have hcz9_0 : w6.cell? ⟨gb202, 0, none⟩ = some (.int .i64 a0_0) := (blk_cell BK202.out 0).trans rfl
      have hcz9_1 : w6.cell? ⟨gb202, 1, none⟩ = some (.int .i64 a0_1) := (blk_cell BK202.out 1).trans rfl
      have hcz9_2 : w6.cell? ⟨gb202, 2, none⟩ = some (.slice A0_2 l0_2.length c0_2) := (blk_cell BK202.out 2).trans rfl
      have hfz9_0 := blk_frozen BK202.out 0
      have hfz9_1 := blk_frozen BK202.out 1
      have hfz9_2 := blk_frozen BK202.out 2
      go_wp2_with (first | ((with_reducible refine gate_callee (f := 9) rfl ?_); refine goesL_ (some 11) rfl rfl Try.func9 (by kernel_rfl) rfl #[.agg #[.int .i64 a0_0, .int .i64 a0_1, .slice A0_2 l0_2.length c0_2]] rfl (by (try simp only [List.map_toArray, List.map_cons, List.map_nil]); first | done | rfl | (simp only [List.length_drop, List.length_take]; rfl)) ?_; (with_reducible refine (exergueref04_Right.calls a0_0 a0_1 _ _ l0_2 true _ ?side1 ?side2 A7.out).mono ?_); (case side1 => repeat (first | exact (Kd.C_below HR0_2.out HB.out) | (with_reducible refine Kd.C_alloc ?_ _) | (with_reducible refine Kd.C_drewN ?_ _) | (with_reducible refine Kd.C_drew ?_))); (case side2 => exact HC0_2.out); rintro e w10 ⟨rfl, hb⟩; refine ⟨_, rfl, ?_⟩; have n0_ := Aside0.mk (blk_below (g := gb202) (o := .cells #[.int .i64 a0_0, .int .i64 a0_1, .slice A0_2 l0_2.length c0_2] 24 (0, 0)) (by (with_reducible repeat (first | refine blk_drewN ?_ _ | refine blk_drew ?_ | refine blk_alloc ?_ _)); exact BK202.out) hb); have n1_ := Aside0.mk (below_step (by repeat (first | (with_reducible first | exact HB.out | apply below_alloc | apply pw_below_drewN | apply below_drew1 | refine below_set ?_ GE202.out) | exact HB.out)) hb); clear BK202; clear HB; have BK202 := n0_; have HB := n1_; clear n0_ n1_; (try clear hb); (try clear hb2); (try clear hk); (try clear hi)))
      go_meet
      case rel => exact ⟨_, (decide ((l1.length : Int) > 1000)), (by first | rfl | (simp; done) | (simp [*]; done)), H', ⟨by first | omega | exact Nat.le_refl _⟩, ⟨by (with_reducible repeat (first | refine blk_drewN ?_ _ | refine blk_drew ?_ | refine blk_alloc ?_ _)); exact BK202.out⟩, ⟨by repeat (first | (with_reducible first | exact HB.out | apply below_alloc | apply pw_below_drewN | apply below_drew1 | refine below_set ?_ GE202.out) | exact HB.out)⟩⟩
    · replace c8 := Bool.eq_false_iff.mpr c8
      subst c8
      have H1 : (exerguelaw04_TankCounts.j0 k l1 t203 true a0_0 a0_1 l0_2) = some r := by rw [if_neg (show ¬ (false = true) by decide)] at H; exact H
      clear H
      have H := H1
      clear H1
      have H' := Aside0.mk H
      clear H
      have hcz11_0 : w6.cell? ⟨gb202, 0, none⟩ = some (.int .i64 a0_0) := (blk_cell BK202.out 0).trans rfl
      have hcz11_1 : w6.cell? ⟨gb202, 1, none⟩ = some (.int .i64 a0_1) := (blk_cell BK202.out 1).trans rfl
      have hcz11_2 : w6.cell? ⟨gb202, 2, none⟩ = some (.slice A0_2 l0_2.length c0_2) := (blk_cell BK202.out 2).trans rfl
      have hfz11_0 := blk_frozen BK202.out 0
      have hfz11_1 := blk_frozen BK202.out 1
      have hfz11_2 := blk_frozen BK202.out 2
      go_wp2_with (first | ((with_reducible refine gate_callee (f := 9) rfl ?_); refine goesL_ (some 11) rfl rfl Try.func9 (by kernel_rfl) rfl #[.agg #[.int .i64 a0_0, .int .i64 a0_1, .slice A0_2 l0_2.length c0_2]] rfl (by (try simp only [List.map_toArray, List.map_cons, List.map_nil]); first | done | rfl | (simp only [List.length_drop, List.length_take]; rfl)) ?_; (with_reducible refine (exergueref04_Right.calls a0_0 a0_1 _ _ l0_2 false _ ?side1 ?side2 A7.out).mono ?_); (case side1 => repeat (first | exact (Kd.C_below HR0_2.out HB.out) | (with_reducible refine Kd.C_alloc ?_ _) | (with_reducible refine Kd.C_drewN ?_ _) | (with_reducible refine Kd.C_drew ?_))); (case side2 => exact HC0_2.out); rintro e w12 ⟨rfl, hb⟩; refine ⟨_, rfl, ?_⟩; have n0_ := Aside0.mk (blk_below (g := gb202) (o := .cells #[.int .i64 a0_0, .int .i64 a0_1, .slice A0_2 l0_2.length c0_2] 24 (0, 0)) (by (with_reducible repeat (first | refine blk_drewN ?_ _ | refine blk_drew ?_ | refine blk_alloc ?_ _)); exact BK202.out) hb); have n1_ := Aside0.mk (below_step (by repeat (first | (with_reducible first | exact HB.out | apply below_alloc | apply pw_below_drewN | apply below_drew1 | refine below_set ?_ GE202.out) | exact HB.out)) hb); clear BK202; clear HB; have BK202 := n0_; have HB := n1_; clear n0_ n1_; (try clear hb); (try clear hb2); (try clear hk); (try clear hi)))
      go_meet
      case rel => exact ⟨_, (true), (by first | rfl | (simp; done) | (simp [*]; done)), H', ⟨by first | omega | exact Nat.le_refl _⟩, ⟨by (with_reducible repeat (first | refine blk_drewN ?_ _ | refine blk_drew ?_ | refine blk_alloc ?_ _)); exact BK202.out⟩, ⟨by repeat (first | (with_reducible first | exact HB.out | apply below_alloc | apply pw_below_drewN | apply below_drew1 | refine below_set ?_ GE202.out) | exact HB.out)⟩⟩
  case rest =>
    clear HC4
    try clear c1
    try clear p2
    try clear c4
    try clear c8
    try clear c9
    try clear hcz11_0
    try clear hcz11_1
    try clear hcz11_2
    try clear hcz9_0
    try clear hcz9_1
    try clear hcz9_2
    try clear hfz11_0
    try clear hfz11_1
    try clear hfz11_2
    try clear hfz9_0
    try clear hfz9_1
    try clear hfz9_2
    obtain ⟨kq, x17_3, rfl, HA, HJ3, BK202, HB⟩ := hcut
    cases kq with
    | zero => exact absurd HA.out (by simp [exerguelaw04_TankCounts.j0])
    | succ kj3 =>
      have H := HA.out
      clear HA
      simp only [exerguelaw04_TankCounts.j0] at H
      by_cases c13 : x17_3 = true
      · subst c13
        have H1 : (some t203) = some r := by rw [if_pos rfl] at H; exact H
        clear H
        have H := H1
        clear H1
        obtain rfl := Option.some.inj H
        go_wp2
        go_ret
        exact ⟨by first | rfl | (simp [errW_none, errW_some] <;> rfl) | (simp [*, errW_none, errW_some] <;> rfl), by repeat (first | (with_reducible first | exact HB.out | apply below_alloc | apply pw_below_drewN | apply below_drew1 | refine below_set ?_ GE202.out) | exact HB.out)⟩
      · replace c13 := Bool.eq_false_iff.mpr c13
        subst c13
        have H1 : ((tank_Put.f kj3 a0_0 a0_1 l0_2 l1).bind fun bt205 => (if a0_0 ≥ (l1.length : Int) then (exerguelaw04_TankCounts.j1 kj3 t203 (l1.length : Int) bt205.2.2.2 ((bt205.2.2.2 == 0) != (decide (a0_1 ≥ (l1.length : Int)))) a0_0 a0_1 l0_2 bt205.1 bt205.2.1 bt205.2.2.1) else (exerguelaw04_TankCounts.j1 kj3 t203 (l1.length : Int) bt205.2.2.2 ((bt205.2.2.2 == 0) != false) a0_0 a0_1 l0_2 bt205.1 bt205.2.1 bt205.2.2.1))) = some r := by rw [if_neg (show ¬ (false = true) by decide)] at H; exact H
        clear H
        have H := H1
        clear H1
        replace H := Option.bind_eq_some_iff.mp H
        obtain ⟨⟨t205, t206, t207, t210⟩, A140, H⟩ := H
        replace H : (if a0_0 ≥ (l1.length : Int) then (exerguelaw04_TankCounts.j1 kj3 t203 (l1.length : Int) t210 ((t210 == 0) != (decide (a0_1 ≥ (l1.length : Int)))) a0_0 a0_1 l0_2 t205 t206 t207) else (exerguelaw04_TankCounts.j1 kj3 t203 (l1.length : Int) t210 ((t210 == 0) != false) a0_0 a0_1 l0_2 t205 t206 t207)) = some r := H
        have A14 := Aside0.mk A140
        clear A140
        have HC15 := Aside0.mk H
        clear H
        have hcz16_0 : wc.cell? ⟨gb202, 0, none⟩ = some (.int .i64 a0_0) := (blk_cell BK202.out 0).trans rfl
        have hcz16_1 : wc.cell? ⟨gb202, 1, none⟩ = some (.int .i64 a0_1) := (blk_cell BK202.out 1).trans rfl
        have hcz16_2 : wc.cell? ⟨gb202, 2, none⟩ = some (.slice A0_2 l0_2.length c0_2) := (blk_cell BK202.out 2).trans rfl
        have hfz16_0 := blk_frozen BK202.out 0
        have hfz16_1 := blk_frozen BK202.out 1
        have hfz16_2 := blk_frozen BK202.out 2
        go_upto_region 6 with (first | ((with_reducible refine gate_callee (f := 10) rfl ?_); refine goesL_ (some 24) rfl rfl Try.func10 (by kernel_rfl) rfl #[.agg #[.int .i64 a0_0, .int .i64 a0_1, .slice A0_2 l0_2.length c0_2], .slice A1 l1.length c1] rfl (by (try simp only [List.map_toArray, List.map_cons, List.map_nil]); first | done | rfl | (simp only [List.length_drop, List.length_take]; rfl)) ?_; (with_reducible refine (tank_Put.calls kj3 a0_0 a0_1 _ _ l0_2 _ _ l1 t205 t206 t207 t210 _ ?side1 ?side2 ?side3 ?side4 A14.out).mono ?_); (case side1 => repeat (first | exact (Kd.C_below HR0_2.out HB.out) | (with_reducible refine Kd.C_alloc ?_ _) | (with_reducible refine Kd.C_drewN ?_ _) | (with_reducible refine Kd.C_drew ?_))); (case side2 => exact HC0_2.out); (case side3 => repeat (first | exact (Kd.C_below HR1.out HB.out) | (with_reducible refine Kd.C_alloc ?_ _) | (with_reducible refine Kd.C_drewN ?_ _) | (with_reducible refine Kd.C_drew ?_))); (case side4 => exact HC1.out); rintro e w17 ⟨v208, rfl, ho0, hb⟩; refine ⟨_, rfl, ?_⟩; have n0_ := Aside0.mk (Kd.R_lower ho0 (below_size (by repeat (first | (with_reducible first | exact HB.out | apply below_alloc | apply pw_below_drewN | apply below_drew1 | refine below_set ?_ GE202.out) | exact HB.out)))); have n1_ := Aside0.mk (blk_below (g := gb202) (o := .cells #[.int .i64 a0_0, .int .i64 a0_1, .slice A0_2 l0_2.length c0_2] 24 (0, 0)) (by (with_reducible repeat (first | refine blk_drewN ?_ _ | refine blk_drew ?_ | refine blk_alloc ?_ _)); exact BK202.out) hb); have n2_ := Aside0.mk (below_step (by repeat (first | (with_reducible first | exact HB.out | apply below_alloc | apply pw_below_drewN | apply below_drew1 | refine below_set ?_ GE202.out) | exact HB.out)) hb); clear BK202; clear HB; have HO209 := n0_; have BK202 := n1_; have HB := n2_; clear n0_ n1_ n2_; (try clear hb); (try clear hb2); (try clear hk); (try clear hi); (try clear ho0)) | ((with_reducible refine gate_dst (N := 7) rfl ?_); (try (refine gate_guard (by rfl) ?_; dsimp only)); refine box_event ?hg (N := 7) ?hd (cs := #[.int .i64 0, .int .i64 0, .slice none 0 0]) (t := 24) ?hr ?_; (case hd => rfl); (case hg => rfl); (case hr => first | (go_simp; done) | (go_simp; rfl)); intro gb211 hg w18 hbox hb; have n0_ := Aside0.mk (Kd.R_below (by (with_reducible repeat (first | apply Kd.R_alloc | apply Kd.R_drewN | apply Kd.R_drew)); exact HO209.out) hb); have n1_ := Aside0.mk (blk_below (g := gb202) (o := .cells #[.int .i64 a0_0, .int .i64 a0_1, .slice A0_2 l0_2.length c0_2] 24 (0, 0)) (by (with_reducible repeat (first | refine blk_drewN ?_ _ | refine blk_drew ?_ | refine blk_alloc ?_ _)); exact BK202.out) hb); have n2_ := Aside0.mk (below_step (by repeat (first | (with_reducible first | exact HB.out | apply below_alloc | apply pw_below_drewN | apply below_drew1 | refine below_set ?_ GE202.out) | exact HB.out)) hb); have n3_ := Aside0.mk (hbox); have n4_ := Aside0.mk ((by rw [hg]; exact (below_size (by repeat (first | (with_reducible first | exact HB.out | apply below_alloc | apply pw_below_drewN | apply below_drew1 | refine below_set ?_ GE202.out) | exact HB.out))) : w.heap.size ≤ gb211)); have n5_ := Aside0.mk ((by rw [hg]; exact (below_size (by repeat (first | (with_reducible first | exact HB.out | apply below_alloc | apply pw_below_drewN | apply below_drew1 | refine below_set ?_ GE202.out) | exact HB.out))) : w.heap.size ≤ gb211)); have n6_ := Aside0.mk ((by rw [hg]; exact Nat.ne_of_lt (blk_lt (g := gb202) (o := .cells #[.int .i64 a0_0, .int .i64 a0_1, .slice A0_2 l0_2.length c0_2] 24 (0, 0)) (by (with_reducible repeat (first | refine blk_drewN ?_ _ | refine blk_drew ?_ | refine blk_alloc ?_ _)); exact BK202.out)) : gb202 ≠ gb211)); have n7_ := Aside0.mk ((by rw [hg]; exact Nat.ne_of_gt (blk_lt (g := gb202) (o := .cells #[.int .i64 a0_0, .int .i64 a0_1, .slice A0_2 l0_2.length c0_2] 24 (0, 0)) (by (with_reducible repeat (first | refine blk_drewN ?_ _ | refine blk_drew ?_ | refine blk_alloc ?_ _)); exact BK202.out)) : gb211 ≠ gb202)); clear HO209; clear BK202; clear HB; have HO209 := n0_; have BK202 := n1_; have HB := n2_; have BK211 := n3_; have GW211 := n4_; have GE211 := n5_; have NB202_211 := n6_; have NB211_202 := n7_; clear n0_ n1_ n2_ n3_ n4_ n5_ n6_ n7_; clear hb hbox hg; have hnb19 := NB211_202.out; have hnc19 := NB202_211.out; have hcz20_0 : w18.cell? ⟨gb211, 0, none⟩ = some (.int .i64 0) := (blk_cell BK211.out 0).trans rfl; have hcz20_1 : w18.cell? ⟨gb211, 1, none⟩ = some (.int .i64 0) := (blk_cell BK211.out 1).trans rfl; have hcz20_2 : w18.cell? ⟨gb211, 2, none⟩ = some (.slice none 0 0) := (blk_cell BK211.out 2).trans rfl; have hfz20_0 := blk_frozen BK211.out 0; have hfz20_1 := blk_frozen BK211.out 1; have hfz20_2 := blk_frozen BK211.out 2; obtain ⟨Ao21, co21, eo21⟩ := Kd.R_slice HO209.out; subst eo21))
        (try simp only [Act.put, List.setIfInBounds_toArray, List.set_cons_zero, List.set_cons_succ])
        go_cut [39] (fun v39 wc => ∃ (kq : Nat) (x39_14 : Bool), v39 = .bool x39_14 ∧ Aside0 (exerguelaw04_TankCounts.j1 kq t203 (l1.length : Int) t210 x39_14 a0_0 a0_1 l0_2 t205 t206 t207 = some r) ∧ Aside0 (kq ≤ kj3) ∧ Aside0 (Kd.R (Kd.int .i32) 21 wc w.heap.size (fun _ => True) (.slice Ao21 t207.length co21) t207) ∧ Aside0 (wc.heap[gb202]? = some (.cells #[.int .i64 a0_0, .int .i64 a0_1, (.slice A0_2 l0_2.length c0_2)] 24 (0, 0))) ∧ Aside0 (wc.heap[gb211]? = some (.cells #[.int .i64 t205, .int .i64 t206, (.slice Ao21 t207.length co21)] 24 (0, 0))) ∧ Aside0 (Below w.heap.size w wc))
        case first =>
          have H := HC15.out
          clear HC15
          by_cases c22 : a0_0 ≥ (l1.length : Int)
          · rw [if_pos c22] at H
            have c22b0 : decide ((l1.length : Int) ≤ a0_0) = true := decide_eq_true c22
            clear c22
            (first | rw [c22b0] | (simp only [i64_w, i32_w]; rw [c22b0]) | skip)
            have H' := Aside0.mk H
            clear H
            have hnb23 := NB202_211.out
            have hnc23 := NB211_202.out
            have hcz24_0 : w18.cell? ⟨gb202, 0, none⟩ = some (.int .i64 a0_0) := (blk_cell BK202.out 0).trans rfl
            have hcz24_1 : w18.cell? ⟨gb202, 1, none⟩ = some (.int .i64 a0_1) := (blk_cell BK202.out 1).trans rfl
            have hcz24_2 : w18.cell? ⟨gb202, 2, none⟩ = some (.slice A0_2 l0_2.length c0_2) := (blk_cell BK202.out 2).trans rfl
            have hfz24_0 := blk_frozen BK202.out 0
            have hfz24_1 := blk_frozen BK202.out 1
            have hfz24_2 := blk_frozen BK202.out 2
            go_wp2
            go_meet
            case rel => exact ⟨_, (((t210 == 0) != (decide (a0_1 ≥ (l1.length : Int))))), (by first | rfl | (simp; done) | (simp [*]; done)), H', ⟨by have := HJ3.out; first | omega | exact Nat.le_refl _⟩, ⟨by (with_reducible repeat (first | apply Kd.R_alloc | apply Kd.R_drewN | apply Kd.R_drew)); exact Kd.R_mono (Kd.R_far (p := ⟨gb211, 2, none⟩) (Kd.R_far (p := ⟨gb211, 1, none⟩) (Kd.R_far (p := ⟨gb211, 0, none⟩) (Kd.R_types HO209.out BK211.out (by decide)) (fun _ hk => hk.2) (.int .i64 t205)) (fun _ hk => hk.2) (.int .i64 t206)) (fun _ hk => hk.2) (.slice Ao21 t207.length co21)) (fun _ hk => trivial)⟩, ⟨by (with_reducible repeat (first | refine blk_drewN ?_ _ | refine blk_drew ?_ | refine blk_alloc ?_ _)); refine blk_far ?_ NB202_211.out _; (with_reducible repeat (first | refine blk_drewN ?_ _ | refine blk_drew ?_ | refine blk_alloc ?_ _)); refine blk_far ?_ NB202_211.out _; (with_reducible repeat (first | refine blk_drewN ?_ _ | refine blk_drew ?_ | refine blk_alloc ?_ _)); refine blk_far ?_ NB202_211.out _; (with_reducible repeat (first | refine blk_drewN ?_ _ | refine blk_drew ?_ | refine blk_alloc ?_ _)); exact BK202.out⟩, ⟨by (with_reducible repeat (first | refine blk_drewN ?_ _ | refine blk_drew ?_ | refine blk_alloc ?_ _)); refine blk_put (cs := #[.int .i64 t205, .int .i64 t206, .slice none 0 0]) ?_ 2 _ rfl; (with_reducible repeat (first | refine blk_drewN ?_ _ | refine blk_drew ?_ | refine blk_alloc ?_ _)); refine blk_put (cs := #[.int .i64 t205, .int .i64 0, .slice none 0 0]) ?_ 1 _ rfl; (with_reducible repeat (first | refine blk_drewN ?_ _ | refine blk_drew ?_ | refine blk_alloc ?_ _)); refine blk_put (cs := #[.int .i64 0, .int .i64 0, .slice none 0 0]) ?_ 0 _ rfl; (with_reducible repeat (first | refine blk_drewN ?_ _ | refine blk_drew ?_ | refine blk_alloc ?_ _)); exact BK211.out⟩, ⟨by repeat (first | (with_reducible first | exact HB.out | apply below_alloc | apply pw_below_drewN | apply below_drew1 | refine below_set ?_ GE202.out | refine below_set ?_ GE211.out) | exact HB.out)⟩⟩
          · rw [if_neg c22] at H
            have c22b0 : decide ((l1.length : Int) ≤ a0_0) = false := decide_eq_false c22
            clear c22
            (first | rw [c22b0] | (simp only [i64_w, i32_w]; rw [c22b0]) | skip)
            have H' := Aside0.mk H
            clear H
            have hnb25 := NB202_211.out
            have hnc25 := NB211_202.out
            have hcz26_0 : w18.cell? ⟨gb202, 0, none⟩ = some (.int .i64 a0_0) := (blk_cell BK202.out 0).trans rfl
            have hcz26_1 : w18.cell? ⟨gb202, 1, none⟩ = some (.int .i64 a0_1) := (blk_cell BK202.out 1).trans rfl
            have hcz26_2 : w18.cell? ⟨gb202, 2, none⟩ = some (.slice A0_2 l0_2.length c0_2) := (blk_cell BK202.out 2).trans rfl
            have hfz26_0 := blk_frozen BK202.out 0
            have hfz26_1 := blk_frozen BK202.out 1
            have hfz26_2 := blk_frozen BK202.out 2
            go_wp2
            go_meet
            case rel => exact ⟨_, (((t210 == 0) != false)), (by first | rfl | (simp; done) | (simp [*]; done)), H', ⟨by have := HJ3.out; first | omega | exact Nat.le_refl _⟩, ⟨by (with_reducible repeat (first | apply Kd.R_alloc | apply Kd.R_drewN | apply Kd.R_drew)); exact Kd.R_mono (Kd.R_far (p := ⟨gb211, 2, none⟩) (Kd.R_far (p := ⟨gb211, 1, none⟩) (Kd.R_far (p := ⟨gb211, 0, none⟩) (Kd.R_types HO209.out BK211.out (by decide)) (fun _ hk => hk.2) (.int .i64 t205)) (fun _ hk => hk.2) (.int .i64 t206)) (fun _ hk => hk.2) (.slice Ao21 t207.length co21)) (fun _ hk => trivial)⟩, ⟨by (with_reducible repeat (first | refine blk_drewN ?_ _ | refine blk_drew ?_ | refine blk_alloc ?_ _)); refine blk_far ?_ NB202_211.out _; (with_reducible repeat (first | refine blk_drewN ?_ _ | refine blk_drew ?_ | refine blk_alloc ?_ _)); refine blk_far ?_ NB202_211.out _; (with_reducible repeat (first | refine blk_drewN ?_ _ | refine blk_drew ?_ | refine blk_alloc ?_ _)); refine blk_far ?_ NB202_211.out _; (with_reducible repeat (first | refine blk_drewN ?_ _ | refine blk_drew ?_ | refine blk_alloc ?_ _)); exact BK202.out⟩, ⟨by (with_reducible repeat (first | refine blk_drewN ?_ _ | refine blk_drew ?_ | refine blk_alloc ?_ _)); refine blk_put (cs := #[.int .i64 t205, .int .i64 t206, .slice none 0 0]) ?_ 2 _ rfl; (with_reducible repeat (first | refine blk_drewN ?_ _ | refine blk_drew ?_ | refine blk_alloc ?_ _)); refine blk_put (cs := #[.int .i64 t205, .int .i64 0, .slice none 0 0]) ?_ 1 _ rfl; (with_reducible repeat (first | refine blk_drewN ?_ _ | refine blk_drew ?_ | refine blk_alloc ?_ _)); refine blk_put (cs := #[.int .i64 0, .int .i64 0, .slice none 0 0]) ?_ 0 _ rfl; (with_reducible repeat (first | refine blk_drewN ?_ _ | refine blk_drew ?_ | refine blk_alloc ?_ _)); exact BK211.out⟩, ⟨by repeat (first | (with_reducible first | exact HB.out | apply below_alloc | apply pw_below_drewN | apply below_drew1 | refine below_set ?_ GE202.out | refine below_set ?_ GE211.out) | exact HB.out)⟩⟩
        case rest =>
          clear HC15
          try clear c1
          try clear c2
          try clear p2
          try clear c4
          try clear c8
          try clear c9
          try clear c10
          try clear c13
          try clear c19
          try clear c22
          try clear c22b0
          try clear c23
          try clear c25
          try clear hcz11_0
          try clear hcz11_1
          try clear hcz11_2
          try clear hcz16_0
          try clear hcz16_1
          try clear hcz16_2
          try clear hcz20_0
          try clear hcz20_1
          try clear hcz20_2
          try clear hcz24_0
          try clear hcz24_1
          try clear hcz24_2
          try clear hcz26_0
          try clear hcz26_1
          try clear hcz26_2
          try clear hcz9_0
          try clear hcz9_1
          try clear hcz9_2
          try clear hfz11_0
          try clear hfz11_1
          try clear hfz11_2
          try clear hfz16_0
          try clear hfz16_1
          try clear hfz16_2
          try clear hfz20_0
          try clear hfz20_1
          try clear hfz20_2
          try clear hfz24_0
          try clear hfz24_1
          try clear hfz24_2
          try clear hfz26_0
          try clear hfz26_1
          try clear hfz26_2
          try clear hfz9_0
          try clear hfz9_1
          try clear hfz9_2
          try clear p2
          obtain ⟨kq, x39_14, rfl, HA, HJ14, HO_212002, BK202, BK211, HB⟩ := hcut
          cases kq with
          | zero => exact absurd HA.out (by simp [exerguelaw04_TankCounts.j1])
          | succ kj14 =>
            have H := HA.out
            clear HA
            simp only [exerguelaw04_TankCounts.j1] at H
            by_cases c27 : x39_14 = true
            · subst c27
              have H1 : (some false) = some r := by rw [if_pos rfl] at H; exact H
              clear H
              have H := H1
              clear H1
              obtain rfl := Option.some.inj H
              go_wp2
              go_ret
              exact ⟨by first | rfl | (simp [errW_none, errW_some] <;> rfl) | (simp [*, errW_none, errW_some] <;> rfl), by repeat (first | (with_reducible first | exact HB.out | apply below_alloc | apply pw_below_drewN | apply below_drew1 | refine below_set ?_ GE202.out | refine below_set ?_ GE211.out) | exact HB.out)⟩
            · replace c27 := Bool.eq_false_iff.mpr c27
              subst c27
              have H1 : (if t210 = 0 then (if t203 = true then (if t205 = (wrap64 (a0_0 - (l1.length : Int))) then (if t206 = (wrap64 (a0_1 - (l1.length : Int))) then (some ((t207.length : Int) == (wrap64 ((l0_2.length : Int) + (l1.length : Int))))) else (some false)) else (some false)) else (some false)) else (if t203 = true then (if t210 = 4 then (if t205 = 0 then (if a0_0 ≤ a0_1 then (some true) else (if t210 = 5 then (if t206 = 0 then (some (decide (a0_0 > a0_1))) else (some false)) else (some false))) else (if t210 = 5 then (if t206 = 0 then (some (decide (a0_0 > a0_1))) else (some false)) else (some false))) else (if t210 = 5 then (if t206 = 0 then (some (decide (a0_0 > a0_1))) else (some false)) else (some false))) else (some false))) = some r := by rw [if_neg (show ¬ (false = true) by decide)] at H; exact H
              clear H
              have H := H1
              clear H1
              by_cases c28 : t210 = 0
              · rw [if_pos c28] at H
                have c28b0 : (t210 == 0) = true := beq_iff_eq.mpr c28
                have c28b1 : (t210 != 0) = false := bne_eq_false_iff_eq.mpr c28
                clear c28
                by_cases c29 : t203 = true
                · subst c29
                  have H1 : (if t205 = (wrap64 (a0_0 - (l1.length : Int))) then (if t206 = (wrap64 (a0_1 - (l1.length : Int))) then (some ((t207.length : Int) == (wrap64 ((l0_2.length : Int) + (l1.length : Int))))) else (some false)) else (some false)) = some r := by rw [if_pos rfl] at H; exact H
                  clear H
                  have H := H1
                  clear H1
                  by_cases c30 : t205 = (wrap64 (a0_0 - (l1.length : Int)))
                  · rw [if_pos c30] at H
                    have c30b0 : (t205 == (wrap64 (a0_0 - (l1.length : Int)))) = true := beq_iff_eq.mpr c30
                    have c30b1 : (t205 != (wrap64 (a0_0 - (l1.length : Int)))) = false := bne_eq_false_iff_eq.mpr c30
                    clear c30
                    by_cases c31 : t206 = (wrap64 (a0_1 - (l1.length : Int)))
                    · rw [if_pos c31] at H
                      have c31b0 : (t206 == (wrap64 (a0_1 - (l1.length : Int)))) = true := beq_iff_eq.mpr c31
                      have c31b1 : (t206 != (wrap64 (a0_1 - (l1.length : Int)))) = false := bne_eq_false_iff_eq.mpr c31
                      clear c31
                      obtain rfl := Option.some.inj H
                      have hnb32 := NB211_202.out
                      have hnc32 := NB202_211.out
                      have hcz33_0 : wc.cell? ⟨gb211, 0, none⟩ = some (.int .i64 t205) := (blk_cell BK211.out 0).trans rfl
                      have hcz33_1 : wc.cell? ⟨gb211, 1, none⟩ = some (.int .i64 t206) := (blk_cell BK211.out 1).trans rfl
                      have hcz33_2 : wc.cell? ⟨gb211, 2, none⟩ = some (.slice Ao21 t207.length co21) := (blk_cell BK211.out 2).trans rfl
                      have hfz33_0 := blk_frozen BK211.out 0
                      have hfz33_1 := blk_frozen BK211.out 1
                      have hfz33_2 := blk_frozen BK211.out 2
                      have hcz34_0 : wc.cell? ⟨gb202, 0, none⟩ = some (.int .i64 a0_0) := (blk_cell BK202.out 0).trans rfl
                      have hcz34_1 : wc.cell? ⟨gb202, 1, none⟩ = some (.int .i64 a0_1) := (blk_cell BK202.out 1).trans rfl
                      have hcz34_2 : wc.cell? ⟨gb202, 2, none⟩ = some (.slice A0_2 l0_2.length c0_2) := (blk_cell BK202.out 2).trans rfl
                      have hfz34_0 := blk_frozen BK202.out 0
                      have hfz34_1 := blk_frozen BK202.out 1
                      have hfz34_2 := blk_frozen BK202.out 2
                      go_wp2
                      go_ret
                      exact ⟨by first | rfl | (simp [errW_none, errW_some] <;> rfl) | (simp [*, errW_none, errW_some] <;> rfl), by repeat (first | (with_reducible first | exact HB.out | apply below_alloc | apply pw_below_drewN | apply below_drew1 | refine below_set ?_ GE202.out | refine below_set ?_ GE211.out) | exact HB.out)⟩
                    · rw [if_neg c31] at H
                      have c31b0 : (t206 == (wrap64 (a0_1 - (l1.length : Int)))) = false := beq_eq_false_iff_ne.mpr c31
                      have c31b1 : (t206 != (wrap64 (a0_1 - (l1.length : Int)))) = true := bne_iff_ne.mpr c31
                      obtain rfl := Option.some.inj H
                      have hnb35 := NB211_202.out
                      have hnc35 := NB202_211.out
                      have hcz36_0 : wc.cell? ⟨gb211, 0, none⟩ = some (.int .i64 t205) := (blk_cell BK211.out 0).trans rfl
                      have hcz36_1 : wc.cell? ⟨gb211, 1, none⟩ = some (.int .i64 t206) := (blk_cell BK211.out 1).trans rfl
                      have hcz36_2 : wc.cell? ⟨gb211, 2, none⟩ = some (.slice Ao21 t207.length co21) := (blk_cell BK211.out 2).trans rfl
                      have hfz36_0 := blk_frozen BK211.out 0
                      have hfz36_1 := blk_frozen BK211.out 1
                      have hfz36_2 := blk_frozen BK211.out 2
                      have hcz37_0 : wc.cell? ⟨gb202, 0, none⟩ = some (.int .i64 a0_0) := (blk_cell BK202.out 0).trans rfl
                      have hcz37_1 : wc.cell? ⟨gb202, 1, none⟩ = some (.int .i64 a0_1) := (blk_cell BK202.out 1).trans rfl
                      have hcz37_2 : wc.cell? ⟨gb202, 2, none⟩ = some (.slice A0_2 l0_2.length c0_2) := (blk_cell BK202.out 2).trans rfl
                      have hfz37_0 := blk_frozen BK202.out 0
                      have hfz37_1 := blk_frozen BK202.out 1
                      have hfz37_2 := blk_frozen BK202.out 2
                      go_wp2
                      go_ret
                      exact ⟨by first | rfl | (simp [errW_none, errW_some] <;> rfl) | (simp [*, errW_none, errW_some] <;> rfl), by repeat (first | (with_reducible first | exact HB.out | apply below_alloc | apply pw_below_drewN | apply below_drew1 | refine below_set ?_ GE202.out | refine below_set ?_ GE211.out) | exact HB.out)⟩
                  · rw [if_neg c30] at H
                    have c30b0 : (t205 == (wrap64 (a0_0 - (l1.length : Int)))) = false := beq_eq_false_iff_ne.mpr c30
                    have c30b1 : (t205 != (wrap64 (a0_0 - (l1.length : Int)))) = true := bne_iff_ne.mpr c30
                    obtain rfl := Option.some.inj H
                    have hnb38 := NB211_202.out
                    have hnc38 := NB202_211.out
                    have hcz39_0 : wc.cell? ⟨gb211, 0, none⟩ = some (.int .i64 t205) := (blk_cell BK211.out 0).trans rfl
                    have hcz39_1 : wc.cell? ⟨gb211, 1, none⟩ = some (.int .i64 t206) := (blk_cell BK211.out 1).trans rfl
                    have hcz39_2 : wc.cell? ⟨gb211, 2, none⟩ = some (.slice Ao21 t207.length co21) := (blk_cell BK211.out 2).trans rfl
                    have hfz39_0 := blk_frozen BK211.out 0
                    have hfz39_1 := blk_frozen BK211.out 1
                    have hfz39_2 := blk_frozen BK211.out 2
                    have hcz40_0 : wc.cell? ⟨gb202, 0, none⟩ = some (.int .i64 a0_0) := (blk_cell BK202.out 0).trans rfl
                    have hcz40_1 : wc.cell? ⟨gb202, 1, none⟩ = some (.int .i64 a0_1) := (blk_cell BK202.out 1).trans rfl
                    have hcz40_2 : wc.cell? ⟨gb202, 2, none⟩ = some (.slice A0_2 l0_2.length c0_2) := (blk_cell BK202.out 2).trans rfl
                    have hfz40_0 := blk_frozen BK202.out 0
                    have hfz40_1 := blk_frozen BK202.out 1
                    have hfz40_2 := blk_frozen BK202.out 2
                    go_wp2
                    go_ret
                    exact ⟨by first | rfl | (simp [errW_none, errW_some] <;> rfl) | (simp [*, errW_none, errW_some] <;> rfl), by repeat (first | (with_reducible first | exact HB.out | apply below_alloc | apply pw_below_drewN | apply below_drew1 | refine below_set ?_ GE202.out | refine below_set ?_ GE211.out) | exact HB.out)⟩
                · replace c29 := Bool.eq_false_iff.mpr c29
                  subst c29
                  have H1 : (some false) = some r := by rw [if_neg (show ¬ (false = true) by decide)] at H; exact H
                  clear H
                  have H := H1
                  clear H1
                  obtain rfl := Option.some.inj H
                  go_wp2
                  go_ret
                  exact ⟨by first | rfl | (simp [errW_none, errW_some] <;> rfl) | (simp [*, errW_none, errW_some] <;> rfl), by repeat (first | (with_reducible first | exact HB.out | apply below_alloc | apply pw_below_drewN | apply below_drew1 | refine below_set ?_ GE202.out | refine below_set ?_ GE211.out) | exact HB.out)⟩
              · rw [if_neg c28] at H
                have c28b0 : (t210 == 0) = false := beq_eq_false_iff_ne.mpr c28
                have c28b1 : (t210 != 0) = true := bne_iff_ne.mpr c28
                by_cases c41 : t203 = true
                · subst c41
                  have H1 : (if t210 = 4 then (if t205 = 0 then (if a0_0 ≤ a0_1 then (some true) else (if t210 = 5 then (if t206 = 0 then (some (decide (a0_0 > a0_1))) else (some false)) else (some false))) else (if t210 = 5 then (if t206 = 0 then (some (decide (a0_0 > a0_1))) else (some false)) else (some false))) else (if t210 = 5 then (if t206 = 0 then (some (decide (a0_0 > a0_1))) else (some false)) else (some false))) = some r := by rw [if_pos rfl] at H; exact H
                  clear H
                  have H := H1
                  clear H1
                  by_cases c42 : t210 = 4
                  · rw [if_pos c42] at H
                    have c42b0 : (t210 == 4) = true := beq_iff_eq.mpr c42
                    have c42b1 : (t210 != 4) = false := bne_eq_false_iff_eq.mpr c42
                    clear c42
                    by_cases c43 : t205 = 0
                    · rw [if_pos c43] at H
                      have c43b0 : (t205 == 0) = true := beq_iff_eq.mpr c43
                      have c43b1 : (t205 != 0) = false := bne_eq_false_iff_eq.mpr c43
                      clear c43
                      by_cases c44 : a0_0 ≤ a0_1
                      · rw [if_pos c44] at H
                        have c44b0 : decide (a0_0 ≤ a0_1) = true := decide_eq_true c44
                        clear c44
                        obtain rfl := Option.some.inj H
                        have hnb45 := NB211_202.out
                        have hnc45 := NB202_211.out
                        have hcz46_0 : wc.cell? ⟨gb211, 0, none⟩ = some (.int .i64 t205) := (blk_cell BK211.out 0).trans rfl
                        have hcz46_1 : wc.cell? ⟨gb211, 1, none⟩ = some (.int .i64 t206) := (blk_cell BK211.out 1).trans rfl
                        have hcz46_2 : wc.cell? ⟨gb211, 2, none⟩ = some (.slice Ao21 t207.length co21) := (blk_cell BK211.out 2).trans rfl
                        have hfz46_0 := blk_frozen BK211.out 0
                        have hfz46_1 := blk_frozen BK211.out 1
                        have hfz46_2 := blk_frozen BK211.out 2
                        have hcz47_0 : wc.cell? ⟨gb202, 0, none⟩ = some (.int .i64 a0_0) := (blk_cell BK202.out 0).trans rfl
                        have hcz47_1 : wc.cell? ⟨gb202, 1, none⟩ = some (.int .i64 a0_1) := (blk_cell BK202.out 1).trans rfl
                        have hcz47_2 : wc.cell? ⟨gb202, 2, none⟩ = some (.slice A0_2 l0_2.length c0_2) := (blk_cell BK202.out 2).trans rfl
                        have hfz47_0 := blk_frozen BK202.out 0
                        have hfz47_1 := blk_frozen BK202.out 1
                        have hfz47_2 := blk_frozen BK202.out 2
                        go_wp2
                        go_ret
                        exact ⟨by first | rfl | (simp [errW_none, errW_some] <;> rfl) | (simp [*, errW_none, errW_some] <;> rfl), by repeat (first | (with_reducible first | exact HB.out | apply below_alloc | apply pw_below_drewN | apply below_drew1 | refine below_set ?_ GE202.out | refine below_set ?_ GE211.out) | exact HB.out)⟩
                      · rw [if_neg c44] at H
                        have c44b0 : decide (a0_0 ≤ a0_1) = false := decide_eq_false c44
                        clear c44
                        by_cases c48 : t210 = 5
                        · rw [if_pos c48] at H
                          have c48b0 : (t210 == 5) = true := beq_iff_eq.mpr c48
                          have c48b1 : (t210 != 5) = false := bne_eq_false_iff_eq.mpr c48
                          clear c48
                          by_cases c49 : t206 = 0
                          · rw [if_pos c49] at H
                            have c49b0 : (t206 == 0) = true := beq_iff_eq.mpr c49
                            have c49b1 : (t206 != 0) = false := bne_eq_false_iff_eq.mpr c49
                            clear c49
                            obtain rfl := Option.some.inj H
                            have hnb50 := NB211_202.out
                            have hnc50 := NB202_211.out
                            have hcz51_0 : wc.cell? ⟨gb211, 0, none⟩ = some (.int .i64 t205) := (blk_cell BK211.out 0).trans rfl
                            have hcz51_1 : wc.cell? ⟨gb211, 1, none⟩ = some (.int .i64 t206) := (blk_cell BK211.out 1).trans rfl
                            have hcz51_2 : wc.cell? ⟨gb211, 2, none⟩ = some (.slice Ao21 t207.length co21) := (blk_cell BK211.out 2).trans rfl
                            have hfz51_0 := blk_frozen BK211.out 0
                            have hfz51_1 := blk_frozen BK211.out 1
                            have hfz51_2 := blk_frozen BK211.out 2
                            have hcz52_0 : wc.cell? ⟨gb202, 0, none⟩ = some (.int .i64 a0_0) := (blk_cell BK202.out 0).trans rfl
                            have hcz52_1 : wc.cell? ⟨gb202, 1, none⟩ = some (.int .i64 a0_1) := (blk_cell BK202.out 1).trans rfl
                            have hcz52_2 : wc.cell? ⟨gb202, 2, none⟩ = some (.slice A0_2 l0_2.length c0_2) := (blk_cell BK202.out 2).trans rfl
                            have hfz52_0 := blk_frozen BK202.out 0
                            have hfz52_1 := blk_frozen BK202.out 1
                            have hfz52_2 := blk_frozen BK202.out 2
                            go_wp2
                            go_ret
                            exact ⟨by first | rfl | (simp [errW_none, errW_some] <;> rfl) | (simp [*, errW_none, errW_some] <;> rfl), by repeat (first | (with_reducible first | exact HB.out | apply below_alloc | apply pw_below_drewN | apply below_drew1 | refine below_set ?_ GE202.out | refine below_set ?_ GE211.out) | exact HB.out)⟩
                          · rw [if_neg c49] at H
                            have c49b0 : (t206 == 0) = false := beq_eq_false_iff_ne.mpr c49
                            have c49b1 : (t206 != 0) = true := bne_iff_ne.mpr c49
                            obtain rfl := Option.some.inj H
                            have hnb53 := NB211_202.out
                            have hnc53 := NB202_211.out
                            have hcz54_0 : wc.cell? ⟨gb211, 0, none⟩ = some (.int .i64 t205) := (blk_cell BK211.out 0).trans rfl
                            have hcz54_1 : wc.cell? ⟨gb211, 1, none⟩ = some (.int .i64 t206) := (blk_cell BK211.out 1).trans rfl
                            have hcz54_2 : wc.cell? ⟨gb211, 2, none⟩ = some (.slice Ao21 t207.length co21) := (blk_cell BK211.out 2).trans rfl
                            have hfz54_0 := blk_frozen BK211.out 0
                            have hfz54_1 := blk_frozen BK211.out 1
                            have hfz54_2 := blk_frozen BK211.out 2
                            have hcz55_0 : wc.cell? ⟨gb202, 0, none⟩ = some (.int .i64 a0_0) := (blk_cell BK202.out 0).trans rfl
                            have hcz55_1 : wc.cell? ⟨gb202, 1, none⟩ = some (.int .i64 a0_1) := (blk_cell BK202.out 1).trans rfl
                            have hcz55_2 : wc.cell? ⟨gb202, 2, none⟩ = some (.slice A0_2 l0_2.length c0_2) := (blk_cell BK202.out 2).trans rfl
                            have hfz55_0 := blk_frozen BK202.out 0
                            have hfz55_1 := blk_frozen BK202.out 1
                            have hfz55_2 := blk_frozen BK202.out 2
                            go_wp2
                            go_ret
                            exact ⟨by first | rfl | (simp [errW_none, errW_some] <;> rfl) | (simp [*, errW_none, errW_some] <;> rfl), by repeat (first | (with_reducible first | exact HB.out | apply below_alloc | apply pw_below_drewN | apply below_drew1 | refine below_set ?_ GE202.out | refine below_set ?_ GE211.out) | exact HB.out)⟩
                        · rw [if_neg c48] at H
                          have c48b0 : (t210 == 5) = false := beq_eq_false_iff_ne.mpr c48
                          have c48b1 : (t210 != 5) = true := bne_iff_ne.mpr c48
                          obtain rfl := Option.some.inj H
                          have hnb56 := NB211_202.out
                          have hnc56 := NB202_211.out
                          have hcz57_0 : wc.cell? ⟨gb211, 0, none⟩ = some (.int .i64 t205) := (blk_cell BK211.out 0).trans rfl
                          have hcz57_1 : wc.cell? ⟨gb211, 1, none⟩ = some (.int .i64 t206) := (blk_cell BK211.out 1).trans rfl
                          have hcz57_2 : wc.cell? ⟨gb211, 2, none⟩ = some (.slice Ao21 t207.length co21) := (blk_cell BK211.out 2).trans rfl
                          have hfz57_0 := blk_frozen BK211.out 0
                          have hfz57_1 := blk_frozen BK211.out 1
                          have hfz57_2 := blk_frozen BK211.out 2
                          have hcz58_0 : wc.cell? ⟨gb202, 0, none⟩ = some (.int .i64 a0_0) := (blk_cell BK202.out 0).trans rfl
                          have hcz58_1 : wc.cell? ⟨gb202, 1, none⟩ = some (.int .i64 a0_1) := (blk_cell BK202.out 1).trans rfl
                          have hcz58_2 : wc.cell? ⟨gb202, 2, none⟩ = some (.slice A0_2 l0_2.length c0_2) := (blk_cell BK202.out 2).trans rfl
                          have hfz58_0 := blk_frozen BK202.out 0
                          have hfz58_1 := blk_frozen BK202.out 1
                          have hfz58_2 := blk_frozen BK202.out 2
                          go_wp2
                          go_ret
                          exact ⟨by first | rfl | (simp [errW_none, errW_some] <;> rfl) | (simp [*, errW_none, errW_some] <;> rfl), by repeat (first | (with_reducible first | exact HB.out | apply below_alloc | apply pw_below_drewN | apply below_drew1 | refine below_set ?_ GE202.out | refine below_set ?_ GE211.out) | exact HB.out)⟩
                    · rw [if_neg c43] at H
                      have c43b0 : (t205 == 0) = false := beq_eq_false_iff_ne.mpr c43
                      have c43b1 : (t205 != 0) = true := bne_iff_ne.mpr c43
                      by_cases c59 : t210 = 5
                      · rw [if_pos c59] at H
                        have c59b0 : (t210 == 5) = true := beq_iff_eq.mpr c59
                        have c59b1 : (t210 != 5) = false := bne_eq_false_iff_eq.mpr c59
                        clear c59
                        by_cases c60 : t206 = 0
                        · rw [if_pos c60] at H
                          have c60b0 : (t206 == 0) = true := beq_iff_eq.mpr c60
                          have c60b1 : (t206 != 0) = false := bne_eq_false_iff_eq.mpr c60
                          clear c60
                          obtain rfl := Option.some.inj H
                          have hnb61 := NB211_202.out
                          have hnc61 := NB202_211.out
                          have hcz62_0 : wc.cell? ⟨gb211, 0, none⟩ = some (.int .i64 t205) := (blk_cell BK211.out 0).trans rfl
                          have hcz62_1 : wc.cell? ⟨gb211, 1, none⟩ = some (.int .i64 t206) := (blk_cell BK211.out 1).trans rfl
                          have hcz62_2 : wc.cell? ⟨gb211, 2, none⟩ = some (.slice Ao21 t207.length co21) := (blk_cell BK211.out 2).trans rfl
                          have hfz62_0 := blk_frozen BK211.out 0
                          have hfz62_1 := blk_frozen BK211.out 1
                          have hfz62_2 := blk_frozen BK211.out 2
                          have hcz63_0 : wc.cell? ⟨gb202, 0, none⟩ = some (.int .i64 a0_0) := (blk_cell BK202.out 0).trans rfl
                          have hcz63_1 : wc.cell? ⟨gb202, 1, none⟩ = some (.int .i64 a0_1) := (blk_cell BK202.out 1).trans rfl
                          have hcz63_2 : wc.cell? ⟨gb202, 2, none⟩ = some (.slice A0_2 l0_2.length c0_2) := (blk_cell BK202.out 2).trans rfl
                          have hfz63_0 := blk_frozen BK202.out 0
                          have hfz63_1 := blk_frozen BK202.out 1
                          have hfz63_2 := blk_frozen BK202.out 2
                          go_wp2
                          go_ret
                          exact ⟨by first | rfl | (simp [errW_none, errW_some] <;> rfl) | (simp [*, errW_none, errW_some] <;> rfl), by repeat (first | (with_reducible first | exact HB.out | apply below_alloc | apply pw_below_drewN | apply below_drew1 | refine below_set ?_ GE202.out | refine below_set ?_ GE211.out) | exact HB.out)⟩
                        · rw [if_neg c60] at H
                          have c60b0 : (t206 == 0) = false := beq_eq_false_iff_ne.mpr c60
                          have c60b1 : (t206 != 0) = true := bne_iff_ne.mpr c60
                          obtain rfl := Option.some.inj H
                          have hnb64 := NB211_202.out
                          have hnc64 := NB202_211.out
                          have hcz65_0 : wc.cell? ⟨gb211, 0, none⟩ = some (.int .i64 t205) := (blk_cell BK211.out 0).trans rfl
                          have hcz65_1 : wc.cell? ⟨gb211, 1, none⟩ = some (.int .i64 t206) := (blk_cell BK211.out 1).trans rfl
                          have hcz65_2 : wc.cell? ⟨gb211, 2, none⟩ = some (.slice Ao21 t207.length co21) := (blk_cell BK211.out 2).trans rfl
                          have hfz65_0 := blk_frozen BK211.out 0
                          have hfz65_1 := blk_frozen BK211.out 1
                          have hfz65_2 := blk_frozen BK211.out 2
                          go_wp2
                          go_ret
                          exact ⟨by first | rfl | (simp [errW_none, errW_some] <;> rfl) | (simp [*, errW_none, errW_some] <;> rfl), by repeat (first | (with_reducible first | exact HB.out | apply below_alloc | apply pw_below_drewN | apply below_drew1 | refine below_set ?_ GE202.out | refine below_set ?_ GE211.out) | exact HB.out)⟩
                      · rw [if_neg c59] at H
                        have c59b0 : (t210 == 5) = false := beq_eq_false_iff_ne.mpr c59
                        have c59b1 : (t210 != 5) = true := bne_iff_ne.mpr c59
                        obtain rfl := Option.some.inj H
                        have hnb66 := NB211_202.out
                        have hnc66 := NB202_211.out
                        have hcz67_0 : wc.cell? ⟨gb211, 0, none⟩ = some (.int .i64 t205) := (blk_cell BK211.out 0).trans rfl
                        have hcz67_1 : wc.cell? ⟨gb211, 1, none⟩ = some (.int .i64 t206) := (blk_cell BK211.out 1).trans rfl
                        have hcz67_2 : wc.cell? ⟨gb211, 2, none⟩ = some (.slice Ao21 t207.length co21) := (blk_cell BK211.out 2).trans rfl
                        have hfz67_0 := blk_frozen BK211.out 0
                        have hfz67_1 := blk_frozen BK211.out 1
                        have hfz67_2 := blk_frozen BK211.out 2
                        go_wp2
                        go_ret
                        exact ⟨by first | rfl | (simp [errW_none, errW_some] <;> rfl) | (simp [*, errW_none, errW_some] <;> rfl), by repeat (first | (with_reducible first | exact HB.out | apply below_alloc | apply pw_below_drewN | apply below_drew1 | refine below_set ?_ GE202.out | refine below_set ?_ GE211.out) | exact HB.out)⟩
                  · rw [if_neg c42] at H
                    have c42b0 : (t210 == 4) = false := beq_eq_false_iff_ne.mpr c42
                    have c42b1 : (t210 != 4) = true := bne_iff_ne.mpr c42
                    by_cases c68 : t210 = 5
                    · rw [if_pos c68] at H
                      have c68b0 : (t210 == 5) = true := beq_iff_eq.mpr c68
                      have c68b1 : (t210 != 5) = false := bne_eq_false_iff_eq.mpr c68
                      clear c68
                      by_cases c69 : t206 = 0
                      · rw [if_pos c69] at H
                        have c69b0 : (t206 == 0) = true := beq_iff_eq.mpr c69
                        have c69b1 : (t206 != 0) = false := bne_eq_false_iff_eq.mpr c69
                        clear c69
                        obtain rfl := Option.some.inj H
                        have hnb70 := NB211_202.out
                        have hnc70 := NB202_211.out
                        have hcz71_0 : wc.cell? ⟨gb211, 0, none⟩ = some (.int .i64 t205) := (blk_cell BK211.out 0).trans rfl
                        have hcz71_1 : wc.cell? ⟨gb211, 1, none⟩ = some (.int .i64 t206) := (blk_cell BK211.out 1).trans rfl
                        have hcz71_2 : wc.cell? ⟨gb211, 2, none⟩ = some (.slice Ao21 t207.length co21) := (blk_cell BK211.out 2).trans rfl
                        have hfz71_0 := blk_frozen BK211.out 0
                        have hfz71_1 := blk_frozen BK211.out 1
                        have hfz71_2 := blk_frozen BK211.out 2
                        have hcz72_0 : wc.cell? ⟨gb202, 0, none⟩ = some (.int .i64 a0_0) := (blk_cell BK202.out 0).trans rfl
                        have hcz72_1 : wc.cell? ⟨gb202, 1, none⟩ = some (.int .i64 a0_1) := (blk_cell BK202.out 1).trans rfl
                        have hcz72_2 : wc.cell? ⟨gb202, 2, none⟩ = some (.slice A0_2 l0_2.length c0_2) := (blk_cell BK202.out 2).trans rfl
                        have hfz72_0 := blk_frozen BK202.out 0
                        have hfz72_1 := blk_frozen BK202.out 1
                        have hfz72_2 := blk_frozen BK202.out 2
                        go_wp2
                        go_ret
                        exact ⟨by first | rfl | (simp [errW_none, errW_some] <;> rfl) | (simp [*, errW_none, errW_some] <;> rfl), by repeat (first | (with_reducible first | exact HB.out | apply below_alloc | apply pw_below_drewN | apply below_drew1 | refine below_set ?_ GE202.out | refine below_set ?_ GE211.out) | exact HB.out)⟩
                      · rw [if_neg c69] at H
                        have c69b0 : (t206 == 0) = false := beq_eq_false_iff_ne.mpr c69
                        have c69b1 : (t206 != 0) = true := bne_iff_ne.mpr c69
                        obtain rfl := Option.some.inj H
                        have hnb73 := NB211_202.out
                        have hnc73 := NB202_211.out
                        have hcz74_0 : wc.cell? ⟨gb211, 0, none⟩ = some (.int .i64 t205) := (blk_cell BK211.out 0).trans rfl
                        have hcz74_1 : wc.cell? ⟨gb211, 1, none⟩ = some (.int .i64 t206) := (blk_cell BK211.out 1).trans rfl
                        have hcz74_2 : wc.cell? ⟨gb211, 2, none⟩ = some (.slice Ao21 t207.length co21) := (blk_cell BK211.out 2).trans rfl
                        have hfz74_0 := blk_frozen BK211.out 0
                        have hfz74_1 := blk_frozen BK211.out 1
                        have hfz74_2 := blk_frozen BK211.out 2
                        go_wp2
                        go_ret
                        exact ⟨by first | rfl | (simp [errW_none, errW_some] <;> rfl) | (simp [*, errW_none, errW_some] <;> rfl), by repeat (first | (with_reducible first | exact HB.out | apply below_alloc | apply pw_below_drewN | apply below_drew1 | refine below_set ?_ GE202.out | refine below_set ?_ GE211.out) | exact HB.out)⟩
                    · rw [if_neg c68] at H
                      have c68b0 : (t210 == 5) = false := beq_eq_false_iff_ne.mpr c68
                      have c68b1 : (t210 != 5) = true := bne_iff_ne.mpr c68
                      obtain rfl := Option.some.inj H
                      go_wp2
                      go_ret
                      exact ⟨by first | rfl | (simp [errW_none, errW_some] <;> rfl) | (simp [*, errW_none, errW_some] <;> rfl), by repeat (first | (with_reducible first | exact HB.out | apply below_alloc | apply pw_below_drewN | apply below_drew1 | refine below_set ?_ GE202.out | refine below_set ?_ GE211.out) | exact HB.out)⟩
                · replace c41 := Bool.eq_false_iff.mpr c41
                  subst c41
                  have H1 : (some false) = some r := by rw [if_neg (show ¬ (false = true) by decide)] at H; exact H
                  clear H
                  have H := H1
                  clear H1
                  obtain rfl := Option.some.inj H
                  go_wp2
                  go_ret
                  exact ⟨by first | rfl | (simp [errW_none, errW_some] <;> rfl) | (simp [*, errW_none, errW_some] <;> rfl), by repeat (first | (with_reducible first | exact HB.out | apply below_alloc | apply pw_below_drewN | apply below_drew1 | refine below_set ?_ GE202.out | refine below_set ?_ GE211.out) | exact HB.out)⟩

end Go.Proofs.Ytlmgpjeienhihaa.Q
