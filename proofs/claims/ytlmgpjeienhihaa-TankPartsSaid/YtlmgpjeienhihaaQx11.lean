/- Functions of the translation as plain Lean functions, each with a proof that the Go code comes to its answers, wherever the function has one; no other condition. Written by this session's own program (wip/myprint.py). -/
import Derived.Test.YtlmgpjeienhihaaQx0
import Derived.Test.YtlmgpjeienhihaaQx2
import Derived.Test.YtlmgpjeienhihaaQx7
import Derived.Test.YtlmgpjeienhihaaQx8
import Derived.Test.YtlmgpjeienhihaaQx9
import Derived.Test.YtlmgpjeienhihaaQx10
namespace Go.Proofs.Ytlmgpjeienhihaa.Q
open Go.RowKit Go.Proofs.Ytlmgpjeienhihaa.Mine Go.Proofs.YtlmgpjeienhihaaW.PrintWords Go.Proofs.YtlmgpjeienhihaaW.PrintLast Go.Proofs.YtlmgpjeienhihaaW.PrintMore
attribute [local go_sem] max2_int min2_int max_two min_two max_three min_three max_four min_four   -- for this text's walks alone
set_option linter.unusedVariables false
set_option linter.unusedSimpArgs false

/-! ### exerguelaw04_TankParts: function 3 -/
mutual
def exerguelaw04_TankParts.j0 : Nat → List Int → List Int → Bool → Bool → Int → Int → List Int → Option (Bool)
  | 0, _, _, _, _, _, _, _ => none
  | k + 1, x1, x2, x7, x25, x156000, x156001, x156002 => if x25 = true then (some x7) else ((some (([] : List Int) : List Int)).bind fun y158 => (if y158.length + x1.length < 35184372088832 then ((some (y158 ++ x1 : List Int)).bind fun y161 => (if y161.length + x2.length < 35184372088832 then ((some (y161 ++ x2 : List Int)).bind fun y164 => ((tank_Put.f k x156000 x156001 x156002 y164).bind fun bt167 => ((tank_Put.f k x156000 x156001 x156002 x1).bind fun bt174 => (if bt174.2.2.2 = 0 then ((tank_Put.f k bt174.1 bt174.2.1 bt174.2.2.1 x2).bind fun bt181 => (exerguelaw04_TankParts.j1 k x7 y164 bt167.2.2.2 bt181.2.2.2 x156000 x156001 x156002 bt167.1 bt167.2.1 bt167.2.2.1 bt181.1 bt181.2.1 bt181.2.2.1)) else (exerguelaw04_TankParts.j1 k x7 y164 bt167.2.2.2 bt174.2.2.2 x156000 x156001 x156002 bt167.1 bt167.2.1 bt167.2.2.1 bt174.1 bt174.2.1 bt174.2.2.1))))) else (none))) else (none)))
def exerguelaw04_TankParts.j1 : Nat → Bool → List Int → Int → Int → Int → Int → List Int → Int → Int → List Int → Int → Int → List Int → Option (Bool)
  | 0, _, _, _, _, _, _, _, _, _, _, _, _, _ => none
  | k + 1, x7, x8, x10, x12, x156000, x156001, x156002, x174000, x174001, x174002, x181000, x181001, x181002 => if x10 = x12 then ((exergueref04_Same.f k x174000 x174001 x174002 x181000 x181001 x181002).bind fun t187 => (if t187 = true then (if (x174002.length : Int) < (x156002.length : Int) then (some false) else (if (x174002.length : Int) > (wrap64 ((x156002.length : Int) + (x8.length : Int))) then (some false) else (if x7 = true then ((some (([] : List Int) : List Int)).bind fun y188 => (if y188.length + x156002.length < 35184372088832 then ((some (y188 ++ x156002 : List Int)).bind fun y191 => (if 0 ≤ (wrap64 ((x174002.length : Int) - (x156002.length : Int))) then (if (wrap64 ((x174002.length : Int) - (x156002.length : Int))) ≤ (x8.length : Int) then ((some (x8.take ((wrap64 ((x174002.length : Int) - (x156002.length : Int))) : Int).toNat : List Int)).bind fun y194 => (if y191.length + y194.length < 35184372088832 then ((exergueref01_Same.f k x174002 (y191 ++ y194)).bind fun t201 => (if t201 = true then (some ((x10 != 0) == (decide ((wrap64 ((x174002.length : Int) - (x156002.length : Int))) < (x8.length : Int))))) else (some false))) else (none))) else (none)) else (none))) else (none))) else (some false)))) else (some false))) else (some false)
end
def exerguelaw04_TankParts.f (k : Nat) (a0_0 : Int) (a0_1 : Int) (l0_2 : List Int) (l1 : List Int) (l2 : List Int) : Option (Bool) := (exerguelaw04_shown.f k).bind fun t156 => ((exergueref04_Right.f a0_0 a0_1 l0_2).bind fun t157 => (if t157 = true then (exerguelaw04_TankParts.j0 k l1 l2 t156 (decide ((wrap64 ((l1.length : Int) + (l2.length : Int))) > 1000)) a0_0 a0_1 l0_2) else (exerguelaw04_TankParts.j0 k l1 l2 t156 true a0_0 a0_1 l0_2)))
theorem exerguelaw04_TankParts.mono_l : ∀ k, (∀ y0 y1 y2 y3 y4 y5 y6, LeO (exerguelaw04_TankParts.j0 k y0 y1 y2 y3 y4 y5 y6) (exerguelaw04_TankParts.j0 (k + 1) y0 y1 y2 y3 y4 y5 y6)) ∧ (∀ y0 y1 y2 y3 y4 y5 y6 y7 y8 y9 y10 y11 y12, LeO (exerguelaw04_TankParts.j1 k y0 y1 y2 y3 y4 y5 y6 y7 y8 y9 y10 y11 y12) (exerguelaw04_TankParts.j1 (k + 1) y0 y1 y2 y3 y4 y5 y6 y7 y8 y9 y10 y11 y12))
  | 0 => ⟨fun _ _ _ _ _ _ _ r h => by simp [exerguelaw04_TankParts.j0] at h, fun _ _ _ _ _ _ _ _ _ _ _ _ _ r h => by simp [exerguelaw04_TankParts.j1] at h⟩
  | k + 1 => by
    obtain ⟨ih0, ih1⟩ := exerguelaw04_TankParts.mono_l k
    refine ⟨?_, ?_⟩
    · intro y0 y1 y2 y3 y4 y5 y6
      unfold exerguelaw04_TankParts.j0
      repeat' first
      | (with_reducible exact ih0 _ _ _ _ _ _ _)
      | (with_reducible exact ih1 _ _ _ _ _ _ _ _ _ _ _ _ _)
      | (with_reducible exact exerguelaw04_shown.mono _)
      | (with_reducible exact exergueref01_Same.mono _ _ _)
      | (with_reducible exact exergueref04_Same.mono _ _ _ _ _ _ _)
      | (with_reducible exact tank_Put.mono _ _ _ _ _)
      | (with_reducible exact LeO.refl _)
      | (with_reducible exact LeO.none _)
      | (with_reducible refine LeO.ite ?_ ?_)
      | (with_reducible refine LeO.bind ?_ (fun _ => ?_))
      | exact ih0 _ _ _ _ _ _ _
      | exact ih1 _ _ _ _ _ _ _ _ _ _ _ _ _
      | exact exerguelaw04_shown.mono _
      | exact exergueref01_Same.mono _ _ _
      | exact exergueref04_Same.mono _ _ _ _ _ _ _
      | exact tank_Put.mono _ _ _ _ _
      | exact LeO.none _
      | refine LeO.ite ?_ ?_
      | refine LeO.bind ?_ (fun _ => ?_)
    · intro y0 y1 y2 y3 y4 y5 y6 y7 y8 y9 y10 y11 y12
      unfold exerguelaw04_TankParts.j1
      repeat' first
      | (with_reducible exact ih0 _ _ _ _ _ _ _)
      | (with_reducible exact ih1 _ _ _ _ _ _ _ _ _ _ _ _ _)
      | (with_reducible exact exerguelaw04_shown.mono _)
      | (with_reducible exact exergueref01_Same.mono _ _ _)
      | (with_reducible exact exergueref04_Same.mono _ _ _ _ _ _ _)
      | (with_reducible exact tank_Put.mono _ _ _ _ _)
      | (with_reducible exact LeO.refl _)
      | (with_reducible exact LeO.none _)
      | (with_reducible refine LeO.ite ?_ ?_)
      | (with_reducible refine LeO.bind ?_ (fun _ => ?_))
      | exact ih0 _ _ _ _ _ _ _
      | exact ih1 _ _ _ _ _ _ _ _ _ _ _ _ _
      | exact exerguelaw04_shown.mono _
      | exact exergueref01_Same.mono _ _ _
      | exact exergueref04_Same.mono _ _ _ _ _ _ _
      | exact tank_Put.mono _ _ _ _ _
      | exact LeO.none _
      | refine LeO.ite ?_ ?_
      | refine LeO.bind ?_ (fun _ => ?_)
theorem exerguelaw04_TankParts.mono : ∀ a0 a1 a2 a3 a4 k, LeO (exerguelaw04_TankParts.f k a0 a1 a2 a3 a4) (exerguelaw04_TankParts.f (k + 1) a0 a1 a2 a3 a4) := by
  intro a0 a1 a2 a3 a4 k
  obtain ⟨ih0, ih1⟩ := exerguelaw04_TankParts.mono_l k
  unfold exerguelaw04_TankParts.f
  repeat' first
      | (with_reducible exact ih0 _ _ _ _ _ _ _)
      | (with_reducible exact ih1 _ _ _ _ _ _ _ _ _ _ _ _ _)
      | (with_reducible exact exerguelaw04_shown.mono _)
      | (with_reducible exact exergueref01_Same.mono _ _ _)
      | (with_reducible exact exergueref04_Same.mono _ _ _ _ _ _ _)
      | (with_reducible exact tank_Put.mono _ _ _ _ _)
      | (with_reducible exact LeO.refl _)
      | (with_reducible exact LeO.none _)
      | (with_reducible refine LeO.ite ?_ ?_)
      | (with_reducible refine LeO.bind ?_ (fun _ => ?_))
      | exact ih0 _ _ _ _ _ _ _
      | exact ih1 _ _ _ _ _ _ _ _ _ _ _ _ _
      | exact exerguelaw04_shown.mono _
      | exact exergueref01_Same.mono _ _ _
      | exact exergueref04_Same.mono _ _ _ _ _ _ _
      | exact tank_Put.mono _ _ _ _ _
      | exact LeO.none _
      | refine LeO.ite ?_ ?_
      | refine LeO.bind ?_ (fun _ => ?_)
def exerguelaw04_TankParts.T12 : Bool × List (List Nat × List Nat) := (true, [([], []), ([0], [0]), ([1], [1]), ([2, 1], [1, 2]), ([1], [1]), ([1], [1]), ([5, 1], [1, 5]), ([4, 6, 1, 1], [1, 4, 6]), ([1], [1]), ([1], [1]), ([8, 9, 1], [1, 8, 9]), ([7, 10, 7, 1], [1, 7, 10]), ([3, 11, 11, 1], [1, 3, 11]), ([1, 12], [1, 12]), ([13, 12], [13]), ([14], [14]), ([15, 14], [14, 15]), ([14], [14]), ([14], [14]), ([18, 14], [14, 18]), ([17, 19, 14], [14, 17, 19]), ([16, 20, 14], [14, 16, 20]), ([14, 21], [14, 21]), ([22, 14, 0, 1, 2, 3, 4, 5, 6, 7, 8, 9, 10, 11, 12, 13, 14, 15, 16, 17, 18, 19, 20, 21, 22], [22])])
def exerguelaw04_TankParts.B12 : List Nat := [0, 1, 3, 7, 3, 3, 35, 115, 3, 3, 771, 2035, 4095, 8191, 16383, 32767, 65535, 32767, 32767, 294911, 950271, 2097151, 4194303, 8388607]
theorem exerguelaw04_TankParts.tab12 : rtab .any (opsOf Try.f3 12) = exerguelaw04_TankParts.T12 := by kernel_rfl
theorem exerguelaw04_TankParts.bits12 : waitsOk exerguelaw04_TankParts.T12.2 exerguelaw04_TankParts.B12 = true := by kernel_rfl
set_option maxHeartbeats 8000000 in
set_option maxRecDepth 100000 in
theorem exerguelaw04_TankParts.calls (k : Nat) (a0_0 : Int) (a0_1 : Int) (A0_2 : Option Addr) (c0_2 : Nat) (l0_2 : List Int) (A1 : Option Addr) (c1 : Nat) (l1 : List Int) (A2 : Option Addr) (c2 : Nat) (l2 : List Int) (r : Bool) (w : World) (hr0_2 : Kd.C (Kd.int .i32) w A0_2 l0_2.length l0_2) (hc0_2 : l0_2.length ≤ c0_2) (hr1 : Kd.C (Kd.int .i32) w A1 l1.length l1) (hc1 : l1.length ≤ c1) (hr2 : Kd.C (Kd.int .i32) w A2 l2.length l2) (hc2 : l2.length ≤ c2) (h : exerguelaw04_TankParts.f k a0_0 a0_1 l0_2 l1 l2 = some r) :
    Calls Try.prog 3 #[.agg #[.int .i64 a0_0, .int .i64 a0_1, .slice A0_2 l0_2.length c0_2], .slice A1 l1.length c1, .slice A2 l2.length c2] w fun e w' => e = .returned (.bool r) ∧ Below w.heap.size w w' := by
  have hu24 := Try.underlying24
  have HR0_2 := Aside0.mk hr0_2
  have HC0_2 := Aside0.mk hc0_2
  clear hr0_2 hc0_2
  have HR1 := Aside0.mk hr1
  have HC1 := Aside0.mk hc1
  clear hr1 hc1
  have HR2 := Aside0.mk hr2
  have HC2 := Aside0.mk hc2
  clear hr2 hc2
  have HB := Aside0.mk (Below.refl w.heap.size w)
  have H : ((exerguelaw04_shown.f k).bind fun t156 => ((exergueref04_Right.f a0_0 a0_1 l0_2).bind fun t157 => (if t157 = true then (exerguelaw04_TankParts.j0 k l1 l2 t156 (decide ((wrap64 ((l1.length : Int) + (l2.length : Int))) > 1000)) a0_0 a0_1 l0_2) else (exerguelaw04_TankParts.j0 k l1 l2 t156 true a0_0 a0_1 l0_2)))) = some r := h
  clear h
  replace H := Option.bind_eq_some_iff.mp H
  obtain ⟨t156, A40, H⟩ := H
  replace H : ((exergueref04_Right.f a0_0 a0_1 l0_2).bind fun t157 => (if t157 = true then (exerguelaw04_TankParts.j0 k l1 l2 t156 (decide ((wrap64 ((l1.length : Int) + (l2.length : Int))) > 1000)) a0_0 a0_1 l0_2) else (exerguelaw04_TankParts.j0 k l1 l2 t156 true a0_0 a0_1 l0_2))) = some r := H
  have A4 := Aside0.mk A40
  clear A40
  have HC5 := Aside0.mk H
  clear H
  go_enter Try.func3, Try.ntmps3
  go_upto_region 2 with (first | ((with_reducible refine gate_dst (N := 3) rfl ?_); (try (refine gate_guard (by rfl) ?_; dsimp only)); refine box_event ?hg (N := 3) ?hd (cs := #[.int .i64 a0_0, .int .i64 a0_1, .slice A0_2 l0_2.length c0_2]) (t := 24) ?hr ?_; (case hd => rfl); (case hg => rfl); (case hr => first | (go_simp; done) | (go_simp; rfl)); intro gb155 hg w6 hbox hb; have n0_ := Aside0.mk (below_step (by repeat (first | (with_reducible first | exact HB.out | apply below_alloc | apply pw_below_drewN | apply below_drew1) | exact HB.out)) hb); have n1_ := Aside0.mk (hbox); have n2_ := Aside0.mk ((by rw [hg]; exact (below_size (by repeat (first | (with_reducible first | exact HB.out | apply below_alloc | apply pw_below_drewN | apply below_drew1) | exact HB.out))) : w.heap.size ≤ gb155)); have n3_ := Aside0.mk ((by rw [hg]; exact (below_size (by repeat (first | (with_reducible first | exact HB.out | apply below_alloc | apply pw_below_drewN | apply below_drew1) | exact HB.out))) : w.heap.size ≤ gb155)); clear HB; have HB := n0_; have BK155 := n1_; have GW155 := n2_; have GE155 := n3_; clear n0_ n1_ n2_ n3_; clear hb hbox hg) | ((with_reducible refine gate_callee (f := 8) rfl ?_); refine goesL_ (some 14) rfl rfl Try.func8 (by kernel_rfl) rfl #[] rfl (by (try simp only [List.map_toArray, List.map_cons, List.map_nil]); first | done | rfl | (simp only [List.length_drop, List.length_take]; rfl)) ?_; (with_reducible refine (exerguelaw04_shown.calls k  t156 _ A4.out).mono ?_); rintro e w7 ⟨rfl, hb⟩; refine ⟨_, rfl, ?_⟩; have n0_ := Aside0.mk (blk_below (g := gb155) (o := .cells #[.int .i64 a0_0, .int .i64 a0_1, .slice A0_2 l0_2.length c0_2] 24 (0, 0)) (by (with_reducible repeat (first | refine blk_drewN ?_ _ | refine blk_drew ?_ | refine blk_alloc ?_ _)); exact BK155.out) hb); have n1_ := Aside0.mk (below_step (by repeat (first | (with_reducible first | exact HB.out | apply below_alloc | apply pw_below_drewN | apply below_drew1 | refine below_set ?_ GE155.out) | exact HB.out)) hb); clear BK155; clear HB; have BK155 := n0_; have HB := n1_; clear n0_ n1_; (try clear hb); (try clear hb2); (try clear hk); (try clear hi)))
  (try simp only [Act.put, List.setIfInBounds_toArray, List.set_cons_zero, List.set_cons_succ])
  go_cut [25] (fun v25 wc => ∃ (kq : Nat) (x25_4 : Bool), v25 = .bool x25_4 ∧ Aside0 (exerguelaw04_TankParts.j0 kq l1 l2 t156 x25_4 a0_0 a0_1 l0_2 = some r) ∧ Aside0 (kq ≤ k) ∧ Aside0 (wc.heap[gb155]? = some (.cells #[.int .i64 a0_0, .int .i64 a0_1, (.slice A0_2 l0_2.length c0_2)] 24 (0, 0))) ∧ Aside0 (Below w.heap.size w wc))
  case first =>
    have H := HC5.out
    clear HC5
    replace H := Option.bind_eq_some_iff.mp H
    obtain ⟨t157, A80, H⟩ := H
    replace H : (if t157 = true then (exerguelaw04_TankParts.j0 k l1 l2 t156 (decide ((wrap64 ((l1.length : Int) + (l2.length : Int))) > 1000)) a0_0 a0_1 l0_2) else (exerguelaw04_TankParts.j0 k l1 l2 t156 true a0_0 a0_1 l0_2)) = some r := H
    have A8 := Aside0.mk A80
    clear A80
    by_cases c9 : t157 = true
    · subst c9
      have H1 : (exerguelaw04_TankParts.j0 k l1 l2 t156 (decide ((wrap64 ((l1.length : Int) + (l2.length : Int))) > 1000)) a0_0 a0_1 l0_2) = some r := by rw [if_pos rfl] at H; exact H
      clear H
      have H := H1
      clear H1
      have H' := Aside0.mk H
      clear H
      have hcz10_0 : w7.cell? ⟨gb155, 0, none⟩ = some (.int .i64 a0_0) := (blk_cell BK155.out 0).trans rfl
      have hcz10_1 : w7.cell? ⟨gb155, 1, none⟩ = some (.int .i64 a0_1) := (blk_cell BK155.out 1).trans rfl
      have hcz10_2 : w7.cell? ⟨gb155, 2, none⟩ = some (.slice A0_2 l0_2.length c0_2) := (blk_cell BK155.out 2).trans rfl
      have hfz10_0 := blk_frozen BK155.out 0
      have hfz10_1 := blk_frozen BK155.out 1
      have hfz10_2 := blk_frozen BK155.out 2
      go_wp2_with (first | ((with_reducible refine gate_callee (f := 9) rfl ?_); refine goesL_ (some 16) rfl rfl Try.func9 (by kernel_rfl) rfl #[.agg #[.int .i64 a0_0, .int .i64 a0_1, .slice A0_2 l0_2.length c0_2]] rfl (by (try simp only [List.map_toArray, List.map_cons, List.map_nil]); first | done | rfl | (simp only [List.length_drop, List.length_take]; rfl)) ?_; (with_reducible refine (exergueref04_Right.calls a0_0 a0_1 _ _ l0_2 true _ ?side1 ?side2 A8.out).mono ?_); (case side1 => repeat (first | exact (Kd.C_below HR0_2.out HB.out) | (with_reducible refine Kd.C_alloc ?_ _) | (with_reducible refine Kd.C_drewN ?_ _) | (with_reducible refine Kd.C_drew ?_))); (case side2 => exact HC0_2.out); rintro e w11 ⟨rfl, hb⟩; refine ⟨_, rfl, ?_⟩; have n0_ := Aside0.mk (blk_below (g := gb155) (o := .cells #[.int .i64 a0_0, .int .i64 a0_1, .slice A0_2 l0_2.length c0_2] 24 (0, 0)) (by (with_reducible repeat (first | refine blk_drewN ?_ _ | refine blk_drew ?_ | refine blk_alloc ?_ _)); exact BK155.out) hb); have n1_ := Aside0.mk (below_step (by repeat (first | (with_reducible first | exact HB.out | apply below_alloc | apply pw_below_drewN | apply below_drew1 | refine below_set ?_ GE155.out) | exact HB.out)) hb); clear BK155; clear HB; have BK155 := n0_; have HB := n1_; clear n0_ n1_; (try clear hb); (try clear hb2); (try clear hk); (try clear hi)))
      go_meet
      case rel => exact ⟨_, (decide ((wrap64 ((l1.length : Int) + (l2.length : Int))) > 1000)), (by first | rfl | (simp; done) | (simp [*]; done)), H', ⟨by first | omega | exact Nat.le_refl _⟩, ⟨by (with_reducible repeat (first | refine blk_drewN ?_ _ | refine blk_drew ?_ | refine blk_alloc ?_ _)); exact BK155.out⟩, ⟨by repeat (first | (with_reducible first | exact HB.out | apply below_alloc | apply pw_below_drewN | apply below_drew1 | refine below_set ?_ GE155.out) | exact HB.out)⟩⟩
    · replace c9 := Bool.eq_false_iff.mpr c9
      subst c9
      have H1 : (exerguelaw04_TankParts.j0 k l1 l2 t156 true a0_0 a0_1 l0_2) = some r := by rw [if_neg (show ¬ (false = true) by decide)] at H; exact H
      clear H
      have H := H1
      clear H1
      have H' := Aside0.mk H
      clear H
      have hcz12_0 : w7.cell? ⟨gb155, 0, none⟩ = some (.int .i64 a0_0) := (blk_cell BK155.out 0).trans rfl
      have hcz12_1 : w7.cell? ⟨gb155, 1, none⟩ = some (.int .i64 a0_1) := (blk_cell BK155.out 1).trans rfl
      have hcz12_2 : w7.cell? ⟨gb155, 2, none⟩ = some (.slice A0_2 l0_2.length c0_2) := (blk_cell BK155.out 2).trans rfl
      have hfz12_0 := blk_frozen BK155.out 0
      have hfz12_1 := blk_frozen BK155.out 1
      have hfz12_2 := blk_frozen BK155.out 2
      go_wp2_with (first | ((with_reducible refine gate_callee (f := 9) rfl ?_); refine goesL_ (some 16) rfl rfl Try.func9 (by kernel_rfl) rfl #[.agg #[.int .i64 a0_0, .int .i64 a0_1, .slice A0_2 l0_2.length c0_2]] rfl (by (try simp only [List.map_toArray, List.map_cons, List.map_nil]); first | done | rfl | (simp only [List.length_drop, List.length_take]; rfl)) ?_; (with_reducible refine (exergueref04_Right.calls a0_0 a0_1 _ _ l0_2 false _ ?side1 ?side2 A8.out).mono ?_); (case side1 => repeat (first | exact (Kd.C_below HR0_2.out HB.out) | (with_reducible refine Kd.C_alloc ?_ _) | (with_reducible refine Kd.C_drewN ?_ _) | (with_reducible refine Kd.C_drew ?_))); (case side2 => exact HC0_2.out); rintro e w13 ⟨rfl, hb⟩; refine ⟨_, rfl, ?_⟩; have n0_ := Aside0.mk (blk_below (g := gb155) (o := .cells #[.int .i64 a0_0, .int .i64 a0_1, .slice A0_2 l0_2.length c0_2] 24 (0, 0)) (by (with_reducible repeat (first | refine blk_drewN ?_ _ | refine blk_drew ?_ | refine blk_alloc ?_ _)); exact BK155.out) hb); have n1_ := Aside0.mk (below_step (by repeat (first | (with_reducible first | exact HB.out | apply below_alloc | apply pw_below_drewN | apply below_drew1 | refine below_set ?_ GE155.out) | exact HB.out)) hb); clear BK155; clear HB; have BK155 := n0_; have HB := n1_; clear n0_ n1_; (try clear hb); (try clear hb2); (try clear hk); (try clear hi)))
      go_meet
      case rel => exact ⟨_, (true), (by first | rfl | (simp; done) | (simp [*]; done)), H', ⟨by first | omega | exact Nat.le_refl _⟩, ⟨by (with_reducible repeat (first | refine blk_drewN ?_ _ | refine blk_drew ?_ | refine blk_alloc ?_ _)); exact BK155.out⟩, ⟨by repeat (first | (with_reducible first | exact HB.out | apply below_alloc | apply pw_below_drewN | apply below_drew1 | refine below_set ?_ GE155.out) | exact HB.out)⟩⟩
  case rest =>
    clear HC5
    try clear c1
    try clear c2
    try clear p2
    try clear c3
    try clear p6
    try clear c8
    try clear c9
    try clear hcz10_0
    try clear hcz10_1
    try clear hcz10_2
    try clear hcz12_0
    try clear hcz12_1
    try clear hcz12_2
    try clear hfz10_0
    try clear hfz10_1
    try clear hfz10_2
    try clear hfz12_0
    try clear hfz12_1
    try clear hfz12_2
    obtain ⟨kq, x25_4, rfl, HA, HJ4, BK155, HB⟩ := hcut
    cases kq with
    | zero => exact absurd HA.out (by simp [exerguelaw04_TankParts.j0])
    | succ kj4 =>
      have H := HA.out
      clear HA
      simp only [exerguelaw04_TankParts.j0] at H
      by_cases c14 : x25_4 = true
      · subst c14
        have H1 : (some t156) = some r := by rw [if_pos rfl] at H; exact H
        clear H
        have H := H1
        clear H1
        obtain rfl := Option.some.inj H
        go_wp2
        go_ret
        exact ⟨by first | rfl | (simp [errW_none, errW_some] <;> rfl) | (simp [*, errW_none, errW_some] <;> rfl), by repeat (first | (with_reducible first | exact HB.out | apply below_alloc | apply pw_below_drewN | apply below_drew1 | refine below_set ?_ GE155.out) | exact HB.out)⟩
      · replace c14 := Bool.eq_false_iff.mpr c14
        subst c14
        have H1 : ((some (([] : List Int) : List Int)).bind fun y158 => (if y158.length + l1.length < 35184372088832 then ((some (y158 ++ l1 : List Int)).bind fun y161 => (if y161.length + l2.length < 35184372088832 then ((some (y161 ++ l2 : List Int)).bind fun y164 => ((tank_Put.f kj4 a0_0 a0_1 l0_2 y164).bind fun bt167 => ((tank_Put.f kj4 a0_0 a0_1 l0_2 l1).bind fun bt174 => (if bt174.2.2.2 = 0 then ((tank_Put.f kj4 bt174.1 bt174.2.1 bt174.2.2.1 l2).bind fun bt181 => (exerguelaw04_TankParts.j1 kj4 t156 y164 bt167.2.2.2 bt181.2.2.2 a0_0 a0_1 l0_2 bt167.1 bt167.2.1 bt167.2.2.1 bt181.1 bt181.2.1 bt181.2.2.1)) else (exerguelaw04_TankParts.j1 kj4 t156 y164 bt167.2.2.2 bt174.2.2.2 a0_0 a0_1 l0_2 bt167.1 bt167.2.1 bt167.2.2.1 bt174.1 bt174.2.1 bt174.2.2.1))))) else (none))) else (none))) = some r := by rw [if_neg (show ¬ (false = true) by decide)] at H; exact H
        clear H
        have H := H1
        clear H1
        obtain ⟨y158, hy158⟩ : ∃ y_ : List Int, y_ = (([] : List Int)) := ⟨_, rfl⟩
        replace H : (if y158.length + l1.length < 35184372088832 then ((some (y158 ++ l1 : List Int)).bind fun y161 => (if y161.length + l2.length < 35184372088832 then ((some (y161 ++ l2 : List Int)).bind fun y164 => ((tank_Put.f kj4 a0_0 a0_1 l0_2 y164).bind fun bt167 => ((tank_Put.f kj4 a0_0 a0_1 l0_2 l1).bind fun bt174 => (if bt174.2.2.2 = 0 then ((tank_Put.f kj4 bt174.1 bt174.2.1 bt174.2.2.1 l2).bind fun bt181 => (exerguelaw04_TankParts.j1 kj4 t156 y164 bt167.2.2.2 bt181.2.2.2 a0_0 a0_1 l0_2 bt167.1 bt167.2.1 bt167.2.2.1 bt181.1 bt181.2.1 bt181.2.2.1)) else (exerguelaw04_TankParts.j1 kj4 t156 y164 bt167.2.2.2 bt174.2.2.2 a0_0 a0_1 l0_2 bt167.1 bt167.2.1 bt167.2.2.1 bt174.1 bt174.2.1 bt174.2.2.1))))) else (none))) else (none)) = some r := by first | (rw [hy158]; with_reducible exact H) | (have H2_ := (Option.bind_some _ _).symm.trans H; rw [hy158]; with_reducible exact H2_) | (have H2_ := (Option.bind_some _ _).symm.trans H; with_reducible exact H2_) | with_reducible exact H | (rw [hy158]; exact H) | exact H
        have Ny158 := Aside0.mk hy158
        clear hy158
        by_cases c15 : y158.length + l1.length < 35184372088832
        · rw [if_pos c15] at H
          have LMc15 := Aside0.mk c15
          clear c15
          obtain ⟨y161, hy161⟩ : ∃ y_ : List Int, y_ = (y158 ++ l1) := ⟨_, rfl⟩
          replace H : (if y161.length + l2.length < 35184372088832 then ((some (y161 ++ l2 : List Int)).bind fun y164 => ((tank_Put.f kj4 a0_0 a0_1 l0_2 y164).bind fun bt167 => ((tank_Put.f kj4 a0_0 a0_1 l0_2 l1).bind fun bt174 => (if bt174.2.2.2 = 0 then ((tank_Put.f kj4 bt174.1 bt174.2.1 bt174.2.2.1 l2).bind fun bt181 => (exerguelaw04_TankParts.j1 kj4 t156 y164 bt167.2.2.2 bt181.2.2.2 a0_0 a0_1 l0_2 bt167.1 bt167.2.1 bt167.2.2.1 bt181.1 bt181.2.1 bt181.2.2.1)) else (exerguelaw04_TankParts.j1 kj4 t156 y164 bt167.2.2.2 bt174.2.2.2 a0_0 a0_1 l0_2 bt167.1 bt167.2.1 bt167.2.2.1 bt174.1 bt174.2.1 bt174.2.2.1))))) else (none)) = some r := by first | (rw [hy161]; with_reducible exact H) | (have H2_ := (Option.bind_some _ _).symm.trans H; rw [hy161]; with_reducible exact H2_) | (have H2_ := (Option.bind_some _ _).symm.trans H; with_reducible exact H2_) | with_reducible exact H | (rw [hy161]; exact H) | exact H
          have Ny161 := Aside0.mk hy161
          clear hy161
          by_cases c16 : y161.length + l2.length < 35184372088832
          · rw [if_pos c16] at H
            have LMc16 := Aside0.mk c16
            clear c16
            obtain ⟨y164, hy164⟩ : ∃ y_ : List Int, y_ = (y161 ++ l2) := ⟨_, rfl⟩
            replace H : ((tank_Put.f kj4 a0_0 a0_1 l0_2 y164).bind fun bt167 => ((tank_Put.f kj4 a0_0 a0_1 l0_2 l1).bind fun bt174 => (if bt174.2.2.2 = 0 then ((tank_Put.f kj4 bt174.1 bt174.2.1 bt174.2.2.1 l2).bind fun bt181 => (exerguelaw04_TankParts.j1 kj4 t156 y164 bt167.2.2.2 bt181.2.2.2 a0_0 a0_1 l0_2 bt167.1 bt167.2.1 bt167.2.2.1 bt181.1 bt181.2.1 bt181.2.2.1)) else (exerguelaw04_TankParts.j1 kj4 t156 y164 bt167.2.2.2 bt174.2.2.2 a0_0 a0_1 l0_2 bt167.1 bt167.2.1 bt167.2.2.1 bt174.1 bt174.2.1 bt174.2.2.1)))) = some r := by first | (rw [hy164]; with_reducible exact H) | (have H2_ := (Option.bind_some _ _).symm.trans H; rw [hy164]; with_reducible exact H2_) | (have H2_ := (Option.bind_some _ _).symm.trans H; with_reducible exact H2_) | with_reducible exact H | (rw [hy164]; exact H) | exact H
            have Ny164 := Aside0.mk hy164
            clear hy164
            replace H := Option.bind_eq_some_iff.mp H
            obtain ⟨⟨t167, t168, t169, t172⟩, A170, H⟩ := H
            replace H : ((tank_Put.f kj4 a0_0 a0_1 l0_2 l1).bind fun bt174 => (if bt174.2.2.2 = 0 then ((tank_Put.f kj4 bt174.1 bt174.2.1 bt174.2.2.1 l2).bind fun bt181 => (exerguelaw04_TankParts.j1 kj4 t156 y164 t172 bt181.2.2.2 a0_0 a0_1 l0_2 t167 t168 t169 bt181.1 bt181.2.1 bt181.2.2.1)) else (exerguelaw04_TankParts.j1 kj4 t156 y164 t172 bt174.2.2.2 a0_0 a0_1 l0_2 t167 t168 t169 bt174.1 bt174.2.1 bt174.2.2.1))) = some r := H
            have A17 := Aside0.mk A170
            clear A170
            replace H := Option.bind_eq_some_iff.mp H
            obtain ⟨⟨t174, t175, t176, t179⟩, A180, H⟩ := H
            replace H : (if t179 = 0 then ((tank_Put.f kj4 t174 t175 t176 l2).bind fun bt181 => (exerguelaw04_TankParts.j1 kj4 t156 y164 t172 bt181.2.2.2 a0_0 a0_1 l0_2 t167 t168 t169 bt181.1 bt181.2.1 bt181.2.2.1)) else (exerguelaw04_TankParts.j1 kj4 t156 y164 t172 t179 a0_0 a0_1 l0_2 t167 t168 t169 t174 t175 t176)) = some r := H
            have A18 := Aside0.mk A180
            clear A180
            have HC19 := Aside0.mk H
            clear H
            go_upto_if 45 with (first | ((with_reducible refine gate_dst (N := 27) rfl ?_); (try (refine gate_guard (by rfl) ?_; dsimp only)); refine Kd.R_lit (Kd.int .i32) _ 21 ?hg (N := 27) ?hd (xs := ([] : List Int)) (inner := []) (ok := fun _ => True) (okp := fun _ => True) ?hr ?hp (fun _ hk => hk) trivial (Below.refl _ _) (Nat.le_refl _) (by simp) ?_; (case hd => rfl); (case hg => rfl); (case hr => first | (go_simp; done) | (go_simp; rfl)); (case hp => exact (Reps.none _ _)); intro v159 w20 ho21 hb hg_ hnew_; clear hg_ hnew_; (first | rw [← Ny158.out] at ho21 | (simp only [Int.reduceToNat] at ho21; rw [← Ny158.out] at ho21)); have n0_ := Aside0.mk (Kd.R_lower ho21 (below_size (by repeat (first | (with_reducible first | exact HB.out | apply below_alloc | apply pw_below_drewN | apply below_drew1 | refine below_set ?_ GE155.out) | exact HB.out)))); have n1_ := Aside0.mk (blk_below (g := gb155) (o := .cells #[.int .i64 a0_0, .int .i64 a0_1, .slice A0_2 l0_2.length c0_2] 24 (0, 0)) (by (with_reducible repeat (first | refine blk_drewN ?_ _ | refine blk_drew ?_ | refine blk_alloc ?_ _)); exact BK155.out) hb); have n2_ := Aside0.mk (below_step (by repeat (first | (with_reducible first | exact HB.out | apply below_alloc | apply pw_below_drewN | apply below_drew1 | refine below_set ?_ GE155.out) | exact HB.out)) hb); clear BK155; clear HB; have HO160 := n0_; have BK155 := n1_; have HB := n2_; clear n0_ n1_ n2_; clear hb ho21) | ((with_reducible refine gate_builtin (b := .append) (xs := #[.tmp 27, .tmp 28]) rfl ?_); (try (refine gate_guard (by rfl) ?_; dsimp only)); at_builtin; refine Kd.R_append_rows (Kd.int .i32) (w0 := w) w.heap.size rfl (.tmp 27) (.tmp 28) 22 21 (.int .i32 0) 4 rfl Try.underlying22 info21 rfl (by decide) (by omega) v159 y158 l1 _ _ _ (fun _ => True) (fun _ => False) rfl rfl ?aO ?aR (fun _ _ h => h) (fun _ h => h.elim) ?aF ?aB ?aS ?aL ?_; (case aR => repeat (first | exact (Kd.C_below HR1.out HB.out) | (with_reducible refine Kd.C_alloc ?_ _) | (with_reducible refine Kd.C_drewN ?_ _) | (with_reducible refine Kd.C_drew ?_))); (case aB => exact (by repeat (first | (with_reducible first | exact HB.out | apply below_alloc | apply pw_below_drewN | apply below_drew1 | refine below_set ?_ GE155.out) | exact HB.out))); (case aF => exact (fun _ _ => trivial)); (case aO => exact (by (with_reducible repeat (first | apply Kd.R_alloc | apply Kd.R_drewN | apply Kd.R_drew)); exact HO160.out)); (case aS => exact (below_size (by repeat (first | (with_reducible first | exact HB.out | apply below_alloc | apply pw_below_drewN | apply below_drew1 | refine below_set ?_ GE155.out) | exact HB.out)))); (case aL => have := LMc15.out; omega); intro v162 w22 ho hb hg hat; rw [← Ny161.out] at ho; have n0_ := Aside0.mk (blk_grown (g := gb155) (o := .cells #[.int .i64 a0_0, .int .i64 a0_1, .slice A0_2 l0_2.length c0_2] 24 (0, 0)) (by (with_reducible repeat (first | refine blk_drewN ?_ _ | refine blk_drew ?_ | refine blk_alloc ?_ _)); exact BK155.out) hg (Kd.R_ne HO160.out BK155.out (by decide))); have n1_ := Aside0.mk (hb); have n2_ := Aside0.mk (ho); clear BK155; clear HB; clear HO160; have BK155 := n0_; have HB := n1_; have HO163 := n2_; clear n0_ n1_ n2_; clear ho hb hg hat) | ((with_reducible refine gate_builtin (b := .append) (xs := #[.tmp 29, .tmp 30]) rfl ?_); (try (refine gate_guard (by rfl) ?_; dsimp only)); at_builtin; refine Kd.R_append_rows (Kd.int .i32) (w0 := w) w.heap.size rfl (.tmp 29) (.tmp 30) 22 21 (.int .i32 0) 4 rfl Try.underlying22 info21 rfl (by decide) (by omega) v162 y161 l2 _ _ _ (fun _ => True) (fun _ => False) rfl rfl ?aO ?aR (fun _ _ h => h) (fun _ h => h.elim) ?aF ?aB ?aS ?aL ?_; (case aR => repeat (first | exact (Kd.C_below HR2.out HB.out) | (with_reducible refine Kd.C_alloc ?_ _) | (with_reducible refine Kd.C_drewN ?_ _) | (with_reducible refine Kd.C_drew ?_))); (case aB => exact (by repeat (first | (with_reducible first | exact HB.out | apply below_alloc | apply pw_below_drewN | apply below_drew1 | refine below_set ?_ GE155.out) | exact HB.out))); (case aF => exact (fun _ _ => trivial)); (case aO => exact (by (with_reducible repeat (first | apply Kd.R_alloc | apply Kd.R_drewN | apply Kd.R_drew)); exact HO163.out)); (case aS => exact (below_size (by repeat (first | (with_reducible first | exact HB.out | apply below_alloc | apply pw_below_drewN | apply below_drew1 | refine below_set ?_ GE155.out) | exact HB.out)))); (case aL => have := LMc16.out; omega); intro v165 w23 ho hb hg hat; rw [← Ny164.out] at ho; have n0_ := Aside0.mk (blk_grown (g := gb155) (o := .cells #[.int .i64 a0_0, .int .i64 a0_1, .slice A0_2 l0_2.length c0_2] 24 (0, 0)) (by (with_reducible repeat (first | refine blk_drewN ?_ _ | refine blk_drew ?_ | refine blk_alloc ?_ _)); exact BK155.out) hg (Kd.R_ne HO163.out BK155.out (by decide))); have n1_ := Aside0.mk (hb); have n2_ := Aside0.mk (ho); clear BK155; clear HB; clear HO163; have BK155 := n0_; have HB := n1_; have HO166 := n2_; clear n0_ n1_ n2_; clear ho hb hg hat; have hcz24_0 : w23.cell? ⟨gb155, 0, none⟩ = some (.int .i64 a0_0) := (blk_cell BK155.out 0).trans rfl; have hcz24_1 : w23.cell? ⟨gb155, 1, none⟩ = some (.int .i64 a0_1) := (blk_cell BK155.out 1).trans rfl; have hcz24_2 : w23.cell? ⟨gb155, 2, none⟩ = some (.slice A0_2 l0_2.length c0_2) := (blk_cell BK155.out 2).trans rfl; have hfz24_0 := blk_frozen BK155.out 0; have hfz24_1 := blk_frozen BK155.out 1; have hfz24_2 := blk_frozen BK155.out 2; obtain ⟨Ao25, co25, eo25⟩ := Kd.R_slice HO166.out; subst eo25) | ((with_reducible refine gate_callee (f := 10) rfl ?_); refine goesL_ (some 35) rfl rfl Try.func10 (by kernel_rfl) rfl #[.agg #[.int .i64 a0_0, .int .i64 a0_1, .slice A0_2 l0_2.length c0_2], .slice Ao25 y164.length co25] rfl (by (try simp only [List.map_toArray, List.map_cons, List.map_nil]); first | done | rfl | (simp only [List.length_drop, List.length_take]; rfl)) ?_; (with_reducible refine (tank_Put.calls kj4 a0_0 a0_1 _ _ l0_2 _ _ y164 t167 t168 t169 t172 _ ?side1 ?side2 ?side3 ?side4 A17.out).mono ?_); (case side1 => repeat (first | exact (Kd.C_below HR0_2.out HB.out) | (with_reducible refine Kd.C_alloc ?_ _) | (with_reducible refine Kd.C_drewN ?_ _) | (with_reducible refine Kd.C_drew ?_))); (case side2 => exact HC0_2.out); (case side3 => repeat (first | exact (Kd.R_reads' HO166.out).2.2 | (with_reducible refine Kd.C_alloc ?_ _) | (with_reducible refine Kd.C_drewN ?_ _) | (with_reducible refine Kd.C_drew ?_))); (case side4 => exact (Kd.R_reads' HO166.out).2.1); rintro e w26 ⟨v170, rfl, ho0, hb⟩; refine ⟨_, rfl, ?_⟩; have n0_ := Aside0.mk (Kd.R_elder' (by (with_reducible repeat (first | apply Kd.R_alloc | apply Kd.R_drewN | apply Kd.R_drew)); exact HO166.out) (Kd.R_base ho0) hb); have n1_ := Aside0.mk (Kd.R_lower (Kd.R_new' ho0 (Kd.R_lt (by (with_reducible repeat (first | apply Kd.R_alloc | apply Kd.R_drewN | apply Kd.R_drew)); exact HO166.out))) (below_size (by repeat (first | (with_reducible first | exact HB.out | apply below_alloc | apply pw_below_drewN | apply below_drew1 | refine below_set ?_ GE155.out) | exact HB.out)))); have n2_ := Aside0.mk (blk_below (g := gb155) (o := .cells #[.int .i64 a0_0, .int .i64 a0_1, .slice A0_2 l0_2.length c0_2] 24 (0, 0)) (by (with_reducible repeat (first | refine blk_drewN ?_ _ | refine blk_drew ?_ | refine blk_alloc ?_ _)); exact BK155.out) hb); have n3_ := Aside0.mk (below_step (by repeat (first | (with_reducible first | exact HB.out | apply below_alloc | apply pw_below_drewN | apply below_drew1 | refine below_set ?_ GE155.out) | exact HB.out)) hb); clear HO166; clear BK155; clear HB; have HO166 := n0_; have HO171 := n1_; have BK155 := n2_; have HB := n3_; clear n0_ n1_ n2_ n3_; (try clear hb); (try clear hb2); (try clear hk); (try clear hi); (try clear ho0)) | ((with_reducible refine gate_dst (N := 9) rfl ?_); (try (refine gate_guard (by rfl) ?_; dsimp only)); refine box_event ?hg (N := 9) ?hd (cs := #[.int .i64 0, .int .i64 0, .slice none 0 0]) (t := 24) ?hr ?_; (case hd => rfl); (case hg => rfl); (case hr => first | (go_simp; done) | (go_simp; rfl)); intro gb173 hg w27 hbox hb; have n0_ := Aside0.mk (Kd.R_below (by (with_reducible repeat (first | apply Kd.R_alloc | apply Kd.R_drewN | apply Kd.R_drew)); exact HO166.out) hb); have n1_ := Aside0.mk (Kd.R_below (by (with_reducible repeat (first | apply Kd.R_alloc | apply Kd.R_drewN | apply Kd.R_drew)); exact HO171.out) hb); have n2_ := Aside0.mk (blk_below (g := gb155) (o := .cells #[.int .i64 a0_0, .int .i64 a0_1, .slice A0_2 l0_2.length c0_2] 24 (0, 0)) (by (with_reducible repeat (first | refine blk_drewN ?_ _ | refine blk_drew ?_ | refine blk_alloc ?_ _)); exact BK155.out) hb); have n3_ := Aside0.mk (below_step (by repeat (first | (with_reducible first | exact HB.out | apply below_alloc | apply pw_below_drewN | apply below_drew1 | refine below_set ?_ GE155.out) | exact HB.out)) hb); have n4_ := Aside0.mk (hbox); have n5_ := Aside0.mk ((by rw [hg]; exact (below_size (by repeat (first | (with_reducible first | exact HB.out | apply below_alloc | apply pw_below_drewN | apply below_drew1 | refine below_set ?_ GE155.out) | exact HB.out))) : w.heap.size ≤ gb173)); have n6_ := Aside0.mk ((by rw [hg]; exact (below_size (by repeat (first | (with_reducible first | exact HB.out | apply below_alloc | apply pw_below_drewN | apply below_drew1 | refine below_set ?_ GE155.out) | exact HB.out))) : w.heap.size ≤ gb173)); have n7_ := Aside0.mk ((by rw [hg]; exact Nat.ne_of_lt (blk_lt (g := gb155) (o := .cells #[.int .i64 a0_0, .int .i64 a0_1, .slice A0_2 l0_2.length c0_2] 24 (0, 0)) (by (with_reducible repeat (first | refine blk_drewN ?_ _ | refine blk_drew ?_ | refine blk_alloc ?_ _)); exact BK155.out)) : gb155 ≠ gb173)); have n8_ := Aside0.mk ((by rw [hg]; exact Nat.ne_of_gt (blk_lt (g := gb155) (o := .cells #[.int .i64 a0_0, .int .i64 a0_1, .slice A0_2 l0_2.length c0_2] 24 (0, 0)) (by (with_reducible repeat (first | refine blk_drewN ?_ _ | refine blk_drew ?_ | refine blk_alloc ?_ _)); exact BK155.out)) : gb173 ≠ gb155)); clear HO166; clear HO171; clear BK155; clear HB; have HO166 := n0_; have HO171 := n1_; have BK155 := n2_; have HB := n3_; have BK173 := n4_; have GW173 := n5_; have GE173 := n6_; have NB155_173 := n7_; have NB173_155 := n8_; clear n0_ n1_ n2_ n3_ n4_ n5_ n6_ n7_ n8_; clear hb hbox hg; have hnb28 := NB173_155.out; have hnc28 := NB155_173.out; have hcz29_0 : w27.cell? ⟨gb173, 0, none⟩ = some (.int .i64 0) := (blk_cell BK173.out 0).trans rfl; have hcz29_1 : w27.cell? ⟨gb173, 1, none⟩ = some (.int .i64 0) := (blk_cell BK173.out 1).trans rfl; have hcz29_2 : w27.cell? ⟨gb173, 2, none⟩ = some (.slice none 0 0) := (blk_cell BK173.out 2).trans rfl; have hfz29_0 := blk_frozen BK173.out 0; have hfz29_1 := blk_frozen BK173.out 1; have hfz29_2 := blk_frozen BK173.out 2; obtain ⟨Ao30, co30, eo30⟩ := Kd.R_slice HO171.out; subst eo30; have hcz31_0 : w27.cell? ⟨gb155, 0, none⟩ = some (.int .i64 a0_0) := (blk_cell BK155.out 0).trans rfl; have hcz31_1 : w27.cell? ⟨gb155, 1, none⟩ = some (.int .i64 a0_1) := (blk_cell BK155.out 1).trans rfl; have hcz31_2 : w27.cell? ⟨gb155, 2, none⟩ = some (.slice A0_2 l0_2.length c0_2) := (blk_cell BK155.out 2).trans rfl; have hfz31_0 := blk_frozen BK155.out 0; have hfz31_1 := blk_frozen BK155.out 1; have hfz31_2 := blk_frozen BK155.out 2) | ((with_reducible refine gate_callee (f := 10) rfl ?_); refine goesL_ (some 41) rfl rfl Try.func10 (by kernel_rfl) rfl #[.agg #[.int .i64 a0_0, .int .i64 a0_1, .slice A0_2 l0_2.length c0_2], .slice A1 l1.length c1] rfl (by (try simp only [List.map_toArray, List.map_cons, List.map_nil]); first | done | rfl | (simp only [List.length_drop, List.length_take]; rfl)) ?_; (with_reducible refine (tank_Put.calls kj4 a0_0 a0_1 _ _ l0_2 _ _ l1 t174 t175 t176 t179 _ ?side1 ?side2 ?side3 ?side4 A18.out).mono ?_); (case side1 => exact Kd.C_below HR0_2.out (by repeat (first | (with_reducible first | exact HB.out | apply below_alloc | apply pw_below_drewN | apply below_drew1 | refine below_set ?_ GE155.out | refine below_set ?_ GE173.out) | exact HB.out))); (case side2 => exact HC0_2.out); (case side3 => exact Kd.C_below HR1.out (by repeat (first | (with_reducible first | exact HB.out | apply below_alloc | apply pw_below_drewN | apply below_drew1 | refine below_set ?_ GE155.out | refine below_set ?_ GE173.out) | exact HB.out))); (case side4 => exact HC1.out); rintro e w32 ⟨v177, rfl, ho0, hb⟩; refine ⟨_, rfl, ?_⟩; have n0_ := Aside0.mk (Kd.R_elder' (by (with_reducible repeat (first | apply Kd.R_alloc | apply Kd.R_drewN | apply Kd.R_drew)); exact (Kd.R_mono (Kd.R_far (p := ⟨gb173, 2, none⟩) (Kd.R_far (p := ⟨gb173, 1, none⟩) (Kd.R_far (p := ⟨gb173, 0, none⟩) (Kd.R_types HO166.out BK173.out (by decide)) (fun _ hk => hk.2) (.int .i64 t167)) (fun _ hk => hk.2) (.int .i64 t168)) (fun _ hk => hk.2) (.slice Ao30 t169.length co30)) (fun _ h_ => h_.1))) (Kd.R_base ho0) hb); have n1_ := Aside0.mk (Kd.R_elder' (by (with_reducible repeat (first | apply Kd.R_alloc | apply Kd.R_drewN | apply Kd.R_drew)); exact (Kd.R_mono (Kd.R_far (p := ⟨gb173, 2, none⟩) (Kd.R_far (p := ⟨gb173, 1, none⟩) (Kd.R_far (p := ⟨gb173, 0, none⟩) (Kd.R_types HO171.out BK173.out (by decide)) (fun _ hk => hk.2) (.int .i64 t167)) (fun _ hk => hk.2) (.int .i64 t168)) (fun _ hk => hk.2) (.slice Ao30 t169.length co30)) (fun _ h_ => h_.1))) (Kd.R_base ho0) hb); have n2_ := Aside0.mk (Kd.R_lower (Kd.R_new' (Kd.R_new' ho0 (Kd.R_lt (by (with_reducible repeat (first | apply Kd.R_alloc | apply Kd.R_drewN | apply Kd.R_drew)); exact (Kd.R_mono (Kd.R_far (p := ⟨gb173, 2, none⟩) (Kd.R_far (p := ⟨gb173, 1, none⟩) (Kd.R_far (p := ⟨gb173, 0, none⟩) (Kd.R_types HO166.out BK173.out (by decide)) (fun _ hk => hk.2) (.int .i64 t167)) (fun _ hk => hk.2) (.int .i64 t168)) (fun _ hk => hk.2) (.slice Ao30 t169.length co30)) (fun _ h_ => h_.1))))) (Kd.R_lt (by (with_reducible repeat (first | apply Kd.R_alloc | apply Kd.R_drewN | apply Kd.R_drew)); exact (Kd.R_mono (Kd.R_far (p := ⟨gb173, 2, none⟩) (Kd.R_far (p := ⟨gb173, 1, none⟩) (Kd.R_far (p := ⟨gb173, 0, none⟩) (Kd.R_types HO171.out BK173.out (by decide)) (fun _ hk => hk.2) (.int .i64 t167)) (fun _ hk => hk.2) (.int .i64 t168)) (fun _ hk => hk.2) (.slice Ao30 t169.length co30)) (fun _ h_ => h_.1))))) (below_size (by repeat (first | (with_reducible first | exact HB.out | apply below_alloc | apply pw_below_drewN | apply below_drew1 | refine below_set ?_ GE155.out | refine below_set ?_ GE173.out) | exact HB.out)))); have n3_ := Aside0.mk (blk_below (g := gb155) (o := .cells #[.int .i64 a0_0, .int .i64 a0_1, .slice A0_2 l0_2.length c0_2] 24 (0, 0)) (by (with_reducible repeat (first | refine blk_drewN ?_ _ | refine blk_drew ?_ | refine blk_alloc ?_ _)); refine blk_far ?_ NB155_173.out _; (with_reducible repeat (first | refine blk_drewN ?_ _ | refine blk_drew ?_ | refine blk_alloc ?_ _)); refine blk_far ?_ NB155_173.out _; (with_reducible repeat (first | refine blk_drewN ?_ _ | refine blk_drew ?_ | refine blk_alloc ?_ _)); refine blk_far ?_ NB155_173.out _; (with_reducible repeat (first | refine blk_drewN ?_ _ | refine blk_drew ?_ | refine blk_alloc ?_ _)); exact BK155.out) hb); have n4_ := Aside0.mk (blk_below (g := gb173) (o := .cells #[.int .i64 t167, .int .i64 t168, .slice Ao30 t169.length co30] 24 (0, 0)) (by (with_reducible repeat (first | refine blk_drewN ?_ _ | refine blk_drew ?_ | refine blk_alloc ?_ _)); refine blk_put (cs := #[.int .i64 t167, .int .i64 t168, .slice none 0 0]) ?_ 2 _ rfl; (with_reducible repeat (first | refine blk_drewN ?_ _ | refine blk_drew ?_ | refine blk_alloc ?_ _)); refine blk_put (cs := #[.int .i64 t167, .int .i64 0, .slice none 0 0]) ?_ 1 _ rfl; (with_reducible repeat (first | refine blk_drewN ?_ _ | refine blk_drew ?_ | refine blk_alloc ?_ _)); refine blk_put (cs := #[.int .i64 0, .int .i64 0, .slice none 0 0]) ?_ 0 _ rfl; (with_reducible repeat (first | refine blk_drewN ?_ _ | refine blk_drew ?_ | refine blk_alloc ?_ _)); exact BK173.out) hb); have n5_ := Aside0.mk (below_step (by repeat (first | (with_reducible first | exact HB.out | apply below_alloc | apply pw_below_drewN | apply below_drew1 | refine below_set ?_ GE155.out | refine below_set ?_ GE173.out) | exact HB.out)) hb); clear HO166; clear HO171; clear BK155; clear BK173; clear HB; have HO166 := n0_; have HO171 := n1_; have HO178 := n2_; have BK155 := n3_; have BK173 := n4_; have HB := n5_; clear n0_ n1_ n2_ n3_ n4_ n5_; (try clear hb); (try clear hb2); (try clear hk); (try clear hi); (try clear ho0)) | ((with_reducible refine gate_dst (N := 11) rfl ?_); (try (refine gate_guard (by rfl) ?_; dsimp only)); refine box_event ?hg (N := 11) ?hd (cs := #[.int .i64 0, .int .i64 0, .slice none 0 0]) (t := 24) ?hr ?_; (case hd => rfl); (case hg => rfl); (case hr => first | (go_simp; done) | (go_simp; rfl)); intro gb180 hg w33 hbox hb; have n0_ := Aside0.mk (Kd.R_below (by (with_reducible repeat (first | apply Kd.R_alloc | apply Kd.R_drewN | apply Kd.R_drew)); exact HO166.out) hb); have n1_ := Aside0.mk (Kd.R_below (by (with_reducible repeat (first | apply Kd.R_alloc | apply Kd.R_drewN | apply Kd.R_drew)); exact HO171.out) hb); have n2_ := Aside0.mk (Kd.R_below (by (with_reducible repeat (first | apply Kd.R_alloc | apply Kd.R_drewN | apply Kd.R_drew)); exact HO178.out) hb); have n3_ := Aside0.mk (blk_below (g := gb155) (o := .cells #[.int .i64 a0_0, .int .i64 a0_1, .slice A0_2 l0_2.length c0_2] 24 (0, 0)) (by (with_reducible repeat (first | refine blk_drewN ?_ _ | refine blk_drew ?_ | refine blk_alloc ?_ _)); exact BK155.out) hb); have n4_ := Aside0.mk (blk_below (g := gb173) (o := .cells #[.int .i64 t167, .int .i64 t168, .slice Ao30 t169.length co30] 24 (0, 0)) (by (with_reducible repeat (first | refine blk_drewN ?_ _ | refine blk_drew ?_ | refine blk_alloc ?_ _)); exact BK173.out) hb); have n5_ := Aside0.mk (below_step (by repeat (first | (with_reducible first | exact HB.out | apply below_alloc | apply pw_below_drewN | apply below_drew1 | refine below_set ?_ GE155.out | refine below_set ?_ GE173.out) | exact HB.out)) hb); have n6_ := Aside0.mk (hbox); have n7_ := Aside0.mk ((by rw [hg]; exact (below_size (by repeat (first | (with_reducible first | exact HB.out | apply below_alloc | apply pw_below_drewN | apply below_drew1 | refine below_set ?_ GE155.out | refine below_set ?_ GE173.out) | exact HB.out))) : w.heap.size ≤ gb180)); have n8_ := Aside0.mk ((by rw [hg]; exact (below_size (by repeat (first | (with_reducible first | exact HB.out | apply below_alloc | apply pw_below_drewN | apply below_drew1 | refine below_set ?_ GE155.out | refine below_set ?_ GE173.out) | exact HB.out))) : w.heap.size ≤ gb180)); have n9_ := Aside0.mk ((by rw [hg]; exact Nat.ne_of_lt (blk_lt (g := gb155) (o := .cells #[.int .i64 a0_0, .int .i64 a0_1, .slice A0_2 l0_2.length c0_2] 24 (0, 0)) (by (with_reducible repeat (first | refine blk_drewN ?_ _ | refine blk_drew ?_ | refine blk_alloc ?_ _)); exact BK155.out)) : gb155 ≠ gb180)); have n10_ := Aside0.mk ((by rw [hg]; exact Nat.ne_of_gt (blk_lt (g := gb155) (o := .cells #[.int .i64 a0_0, .int .i64 a0_1, .slice A0_2 l0_2.length c0_2] 24 (0, 0)) (by (with_reducible repeat (first | refine blk_drewN ?_ _ | refine blk_drew ?_ | refine blk_alloc ?_ _)); exact BK155.out)) : gb180 ≠ gb155)); have n11_ := Aside0.mk ((by rw [hg]; exact Nat.ne_of_lt (blk_lt (g := gb173) (o := .cells #[.int .i64 t167, .int .i64 t168, .slice Ao30 t169.length co30] 24 (0, 0)) (by (with_reducible repeat (first | refine blk_drewN ?_ _ | refine blk_drew ?_ | refine blk_alloc ?_ _)); exact BK173.out)) : gb173 ≠ gb180)); have n12_ := Aside0.mk ((by rw [hg]; exact Nat.ne_of_gt (blk_lt (g := gb173) (o := .cells #[.int .i64 t167, .int .i64 t168, .slice Ao30 t169.length co30] 24 (0, 0)) (by (with_reducible repeat (first | refine blk_drewN ?_ _ | refine blk_drew ?_ | refine blk_alloc ?_ _)); exact BK173.out)) : gb180 ≠ gb173)); clear HO166; clear HO171; clear HO178; clear BK155; clear BK173; clear HB; have HO166 := n0_; have HO171 := n1_; have HO178 := n2_; have BK155 := n3_; have BK173 := n4_; have HB := n5_; have BK180 := n6_; have GW180 := n7_; have GE180 := n8_; have NB155_180 := n9_; have NB180_155 := n10_; have NB173_180 := n11_; have NB180_173 := n12_; clear n0_ n1_ n2_ n3_ n4_ n5_ n6_ n7_ n8_ n9_ n10_ n11_ n12_; clear hb hbox hg; have hnb34 := NB180_155.out; have hnc34 := NB155_180.out; have hnb35 := NB180_173.out; have hnc35 := NB173_180.out; have hcz36_0 : w33.cell? ⟨gb180, 0, none⟩ = some (.int .i64 0) := (blk_cell BK180.out 0).trans rfl; have hcz36_1 : w33.cell? ⟨gb180, 1, none⟩ = some (.int .i64 0) := (blk_cell BK180.out 1).trans rfl; have hcz36_2 : w33.cell? ⟨gb180, 2, none⟩ = some (.slice none 0 0) := (blk_cell BK180.out 2).trans rfl; have hfz36_0 := blk_frozen BK180.out 0; have hfz36_1 := blk_frozen BK180.out 1; have hfz36_2 := blk_frozen BK180.out 2; obtain ⟨Ao37, co37, eo37⟩ := Kd.R_slice HO178.out; subst eo37))
            (try simp only [Act.put, List.setIfInBounds_toArray, List.set_cons_zero, List.set_cons_succ])
            go_cut [12] (fun v12 wc => ∃ (kq : Nat) (x12_18 : Int) (x181000_18 : Int) (x181001_18 : Int) (x181002_18 : List Int) (u181002 : Value), v12 = .int .i64 x12_18 ∧ Aside0 (exerguelaw04_TankParts.j1 kq t156 y164 t172 x12_18 a0_0 a0_1 l0_2 t167 t168 t169 x181000_18 x181001_18 x181002_18 = some r) ∧ Aside0 (kq ≤ kj4) ∧ Aside0 (Kd.R (Kd.int .i32) 21 wc w.heap.size (fun k_ => some k_ ≠ ((.slice Ao30 t169.length co30) : Value).ownBlock ∧ some k_ ≠ (u181002 : Value).ownBlock) (.slice Ao25 y164.length co25) y164) ∧ Aside0 (Kd.R (Kd.int .i32) 21 wc w.heap.size (fun k_ => some k_ ≠ ((.slice Ao25 y164.length co25) : Value).ownBlock ∧ some k_ ≠ (u181002 : Value).ownBlock) (.slice Ao30 t169.length co30) t169) ∧ Aside0 (Kd.R (Kd.int .i32) 21 wc w.heap.size (fun k_ => some k_ ≠ ((.slice Ao25 y164.length co25) : Value).ownBlock ∧ some k_ ≠ ((.slice Ao30 t169.length co30) : Value).ownBlock) u181002 x181002_18) ∧ Aside0 (wc.heap[gb155]? = some (.cells #[.int .i64 a0_0, .int .i64 a0_1, (.slice A0_2 l0_2.length c0_2)] 24 (0, 0))) ∧ Aside0 (wc.heap[gb173]? = some (.cells #[.int .i64 t167, .int .i64 t168, (.slice Ao30 t169.length co30)] 24 (0, 0))) ∧ Aside0 (wc.heap[gb180]? = some (.cells #[.int .i64 x181000_18, .int .i64 x181001_18, u181002] 24 (0, 0))) ∧ Aside0 (Below w.heap.size w wc))
            case first =>
              have H := HC19.out
              clear HC19
              by_cases c38 : t179 = 0
              · rw [if_pos c38] at H
                have c38b0 : (t179 == 0) = true := beq_iff_eq.mpr c38
                have c38b1 : (t179 != 0) = false := bne_eq_false_iff_eq.mpr c38
                clear c38
                (first | rw [c38b0] | (simp only [i64_w, i32_w]; rw [c38b0]) | skip)
                replace H := Option.bind_eq_some_iff.mp H
                obtain ⟨⟨t181, t182, t183, t186⟩, A390, H⟩ := H
                replace H : (exerguelaw04_TankParts.j1 kj4 t156 y164 t172 t186 a0_0 a0_1 l0_2 t167 t168 t169 t181 t182 t183) = some r := H
                have A39 := Aside0.mk A390
                clear A390
                have H' := Aside0.mk H
                clear H
                have hnb40 := NB180_155.out
                have hnc40 := NB155_180.out
                have hnb41 := NB180_173.out
                have hnc41 := NB173_180.out
                have hcz42_0 : w33.cell? ⟨gb180, 0, none⟩ = some (.int .i64 0) := (blk_cell BK180.out 0).trans rfl
                have hcz42_1 : w33.cell? ⟨gb180, 1, none⟩ = some (.int .i64 0) := (blk_cell BK180.out 1).trans rfl
                have hcz42_2 : w33.cell? ⟨gb180, 2, none⟩ = some (.slice none 0 0) := (blk_cell BK180.out 2).trans rfl
                have hfz42_0 := blk_frozen BK180.out 0
                have hfz42_1 := blk_frozen BK180.out 1
                have hfz42_2 := blk_frozen BK180.out 2
                go_wp2_with (first | ((with_reducible refine gate_callee (f := 10) rfl ?_); refine goesL_ (some 49) rfl rfl Try.func10 (by kernel_rfl) rfl #[.agg #[.int .i64 t174, .int .i64 t175, .slice Ao37 t176.length co37], .slice A2 l2.length c2] rfl (by (try simp only [List.map_toArray, List.map_cons, List.map_nil]); first | done | rfl | (simp only [List.length_drop, List.length_take]; rfl)) ?_; (with_reducible refine (tank_Put.calls kj4 t174 t175 _ _ t176 _ _ l2 t181 t182 t183 t186 _ ?side1 ?side2 ?side3 ?side4 A39.out).mono ?_); (case side1 => refine (Kd.R_reads' (e := 21) (base := w.heap.size) (ok := fun k_ => ((True ∧ some k_ ≠ (.slice Ao25 y164.length co25 : Value).ownBlock) ∧ some k_ ≠ (.slice Ao30 t169.length co30 : Value).ownBlock)) (n := t176.length) (c := co37) ?_).2.2; exact (by (with_reducible repeat (first | apply Kd.R_alloc | apply Kd.R_drewN | apply Kd.R_drew)); exact (Kd.R_mono (Kd.R_far (p := ⟨gb180, 2, none⟩) (Kd.R_far (p := ⟨gb180, 1, none⟩) (Kd.R_far (p := ⟨gb180, 0, none⟩) (Kd.R_types HO178.out BK180.out (by decide)) (fun _ hk => hk.2) (.int .i64 t174)) (fun _ hk => hk.2) (.int .i64 t175)) (fun _ hk => hk.2) (.slice Ao37 t176.length co37)) (fun _ h_ => h_.1)))); (case side2 => exact (Kd.R_reads' HO178.out).2.1); (case side3 => exact Kd.C_below HR2.out (by repeat (first | (with_reducible first | exact HB.out | apply below_alloc | apply pw_below_drewN | apply below_drew1 | refine below_set ?_ GE155.out | refine below_set ?_ GE173.out | refine below_set ?_ GE180.out) | exact HB.out))); (case side4 => exact HC2.out); rintro e w43 ⟨v184, rfl, ho0, hb⟩; refine ⟨_, rfl, ?_⟩; have n0_ := Aside0.mk (Kd.R_elder' (by (with_reducible repeat (first | apply Kd.R_alloc | apply Kd.R_drewN | apply Kd.R_drew)); exact (Kd.R_mono (Kd.R_far (p := ⟨gb180, 2, none⟩) (Kd.R_far (p := ⟨gb180, 1, none⟩) (Kd.R_far (p := ⟨gb180, 0, none⟩) (Kd.R_types HO166.out BK180.out (by decide)) (fun _ hk => hk.2) (.int .i64 t174)) (fun _ hk => hk.2) (.int .i64 t175)) (fun _ hk => hk.2) (.slice Ao37 t176.length co37)) (fun _ h_ => h_.1))) (Kd.R_base ho0) hb); have n1_ := Aside0.mk (Kd.R_elder' (by (with_reducible repeat (first | apply Kd.R_alloc | apply Kd.R_drewN | apply Kd.R_drew)); exact (Kd.R_mono (Kd.R_far (p := ⟨gb180, 2, none⟩) (Kd.R_far (p := ⟨gb180, 1, none⟩) (Kd.R_far (p := ⟨gb180, 0, none⟩) (Kd.R_types HO171.out BK180.out (by decide)) (fun _ hk => hk.2) (.int .i64 t174)) (fun _ hk => hk.2) (.int .i64 t175)) (fun _ hk => hk.2) (.slice Ao37 t176.length co37)) (fun _ h_ => h_.1))) (Kd.R_base ho0) hb); have n2_ := Aside0.mk (Kd.R_elder' (by (with_reducible repeat (first | apply Kd.R_alloc | apply Kd.R_drewN | apply Kd.R_drew)); exact (Kd.R_mono (Kd.R_far (p := ⟨gb180, 2, none⟩) (Kd.R_far (p := ⟨gb180, 1, none⟩) (Kd.R_far (p := ⟨gb180, 0, none⟩) (Kd.R_types HO178.out BK180.out (by decide)) (fun _ hk => hk.2) (.int .i64 t174)) (fun _ hk => hk.2) (.int .i64 t175)) (fun _ hk => hk.2) (.slice Ao37 t176.length co37)) (fun _ h_ => h_.1))) (Kd.R_base ho0) hb); have n3_ := Aside0.mk (Kd.R_lower (Kd.R_new' (Kd.R_new' (Kd.R_new' ho0 (Kd.R_lt (by (with_reducible repeat (first | apply Kd.R_alloc | apply Kd.R_drewN | apply Kd.R_drew)); exact (Kd.R_mono (Kd.R_far (p := ⟨gb180, 2, none⟩) (Kd.R_far (p := ⟨gb180, 1, none⟩) (Kd.R_far (p := ⟨gb180, 0, none⟩) (Kd.R_types HO166.out BK180.out (by decide)) (fun _ hk => hk.2) (.int .i64 t174)) (fun _ hk => hk.2) (.int .i64 t175)) (fun _ hk => hk.2) (.slice Ao37 t176.length co37)) (fun _ h_ => h_.1))))) (Kd.R_lt (by (with_reducible repeat (first | apply Kd.R_alloc | apply Kd.R_drewN | apply Kd.R_drew)); exact (Kd.R_mono (Kd.R_far (p := ⟨gb180, 2, none⟩) (Kd.R_far (p := ⟨gb180, 1, none⟩) (Kd.R_far (p := ⟨gb180, 0, none⟩) (Kd.R_types HO171.out BK180.out (by decide)) (fun _ hk => hk.2) (.int .i64 t174)) (fun _ hk => hk.2) (.int .i64 t175)) (fun _ hk => hk.2) (.slice Ao37 t176.length co37)) (fun _ h_ => h_.1))))) (Kd.R_lt (by (with_reducible repeat (first | apply Kd.R_alloc | apply Kd.R_drewN | apply Kd.R_drew)); exact (Kd.R_mono (Kd.R_far (p := ⟨gb180, 2, none⟩) (Kd.R_far (p := ⟨gb180, 1, none⟩) (Kd.R_far (p := ⟨gb180, 0, none⟩) (Kd.R_types HO178.out BK180.out (by decide)) (fun _ hk => hk.2) (.int .i64 t174)) (fun _ hk => hk.2) (.int .i64 t175)) (fun _ hk => hk.2) (.slice Ao37 t176.length co37)) (fun _ h_ => h_.1))))) (below_size (by repeat (first | (with_reducible first | exact HB.out | apply below_alloc | apply pw_below_drewN | apply below_drew1 | refine below_set ?_ GE155.out | refine below_set ?_ GE173.out | refine below_set ?_ GE180.out) | exact HB.out)))); have n4_ := Aside0.mk (blk_below (g := gb155) (o := .cells #[.int .i64 a0_0, .int .i64 a0_1, .slice A0_2 l0_2.length c0_2] 24 (0, 0)) (by (with_reducible repeat (first | refine blk_drewN ?_ _ | refine blk_drew ?_ | refine blk_alloc ?_ _)); refine blk_far ?_ NB155_180.out _; (with_reducible repeat (first | refine blk_drewN ?_ _ | refine blk_drew ?_ | refine blk_alloc ?_ _)); refine blk_far ?_ NB155_180.out _; (with_reducible repeat (first | refine blk_drewN ?_ _ | refine blk_drew ?_ | refine blk_alloc ?_ _)); refine blk_far ?_ NB155_180.out _; (with_reducible repeat (first | refine blk_drewN ?_ _ | refine blk_drew ?_ | refine blk_alloc ?_ _)); exact BK155.out) hb); have n5_ := Aside0.mk (blk_below (g := gb173) (o := .cells #[.int .i64 t167, .int .i64 t168, .slice Ao30 t169.length co30] 24 (0, 0)) (by (with_reducible repeat (first | refine blk_drewN ?_ _ | refine blk_drew ?_ | refine blk_alloc ?_ _)); refine blk_far ?_ NB173_180.out _; (with_reducible repeat (first | refine blk_drewN ?_ _ | refine blk_drew ?_ | refine blk_alloc ?_ _)); refine blk_far ?_ NB173_180.out _; (with_reducible repeat (first | refine blk_drewN ?_ _ | refine blk_drew ?_ | refine blk_alloc ?_ _)); refine blk_far ?_ NB173_180.out _; (with_reducible repeat (first | refine blk_drewN ?_ _ | refine blk_drew ?_ | refine blk_alloc ?_ _)); exact BK173.out) hb); have n6_ := Aside0.mk (blk_below (g := gb180) (o := .cells #[.int .i64 t174, .int .i64 t175, .slice Ao37 t176.length co37] 24 (0, 0)) (by (with_reducible repeat (first | refine blk_drewN ?_ _ | refine blk_drew ?_ | refine blk_alloc ?_ _)); refine blk_put (cs := #[.int .i64 t174, .int .i64 t175, .slice none 0 0]) ?_ 2 _ rfl; (with_reducible repeat (first | refine blk_drewN ?_ _ | refine blk_drew ?_ | refine blk_alloc ?_ _)); refine blk_put (cs := #[.int .i64 t174, .int .i64 0, .slice none 0 0]) ?_ 1 _ rfl; (with_reducible repeat (first | refine blk_drewN ?_ _ | refine blk_drew ?_ | refine blk_alloc ?_ _)); refine blk_put (cs := #[.int .i64 0, .int .i64 0, .slice none 0 0]) ?_ 0 _ rfl; (with_reducible repeat (first | refine blk_drewN ?_ _ | refine blk_drew ?_ | refine blk_alloc ?_ _)); exact BK180.out) hb); have n7_ := Aside0.mk (below_step (by repeat (first | (with_reducible first | exact HB.out | apply below_alloc | apply pw_below_drewN | apply below_drew1 | refine below_set ?_ GE155.out | refine below_set ?_ GE173.out | refine below_set ?_ GE180.out) | exact HB.out)) hb); clear HO166; clear HO171; clear HO178; clear BK155; clear BK173; clear BK180; clear HB; have HO166 := n0_; have HO171 := n1_; have HO178 := n2_; have HO185 := n3_; have BK155 := n4_; have BK173 := n5_; have BK180 := n6_; have HB := n7_; clear n0_ n1_ n2_ n3_ n4_ n5_ n6_ n7_; (try clear hb); (try clear hb2); (try clear hk); (try clear hi); (try clear ho0); have hcz44_0 : w43.cell? ⟨gb180, 0, none⟩ = some (.int .i64 t174) := (blk_cell BK180.out 0).trans rfl; have hcz44_1 : w43.cell? ⟨gb180, 1, none⟩ = some (.int .i64 t175) := (blk_cell BK180.out 1).trans rfl; have hcz44_2 : w43.cell? ⟨gb180, 2, none⟩ = some (.slice Ao37 t176.length co37) := (blk_cell BK180.out 2).trans rfl; have hfz44_0 := blk_frozen BK180.out 0; have hfz44_1 := blk_frozen BK180.out 1; have hfz44_2 := blk_frozen BK180.out 2; obtain ⟨Ao45, co45, eo45⟩ := Kd.R_slice HO185.out; subst eo45))
                go_meet
                case rel => exact ⟨_, (t186), (t181), (t182), (t183), (.slice Ao45 t183.length co45), (by first | rfl | (simp; done) | (simp [*]; done)), H', ⟨by have := HJ4.out; first | omega | exact Nat.le_refl _⟩, ⟨by (with_reducible repeat (first | apply Kd.R_alloc | apply Kd.R_drewN | apply Kd.R_drew)); exact Kd.R_mono (Kd.R_far (p := ⟨gb180, 2, none⟩) (Kd.R_far (p := ⟨gb180, 1, none⟩) (Kd.R_far (p := ⟨gb180, 0, none⟩) (Kd.R_types HO166.out BK180.out (by decide)) (fun _ hk => hk.2) (.int .i64 t181)) (fun _ hk => hk.2) (.int .i64 t182)) (fun _ hk => hk.2) (.slice Ao45 t183.length co45)) (fun _ hk => ⟨hk.1.1.1.2, hk.1.2⟩)⟩, ⟨by (with_reducible repeat (first | apply Kd.R_alloc | apply Kd.R_drewN | apply Kd.R_drew)); exact Kd.R_mono (Kd.R_far (p := ⟨gb180, 2, none⟩) (Kd.R_far (p := ⟨gb180, 1, none⟩) (Kd.R_far (p := ⟨gb180, 0, none⟩) (Kd.R_types HO171.out BK180.out (by decide)) (fun _ hk => hk.2) (.int .i64 t181)) (fun _ hk => hk.2) (.int .i64 t182)) (fun _ hk => hk.2) (.slice Ao45 t183.length co45)) (fun _ hk => ⟨hk.1.1.1.2, hk.1.2⟩)⟩, ⟨by (with_reducible repeat (first | apply Kd.R_alloc | apply Kd.R_drewN | apply Kd.R_drew)); exact Kd.R_mono (Kd.R_far (p := ⟨gb180, 2, none⟩) (Kd.R_far (p := ⟨gb180, 1, none⟩) (Kd.R_far (p := ⟨gb180, 0, none⟩) (Kd.R_types HO185.out BK180.out (by decide)) (fun _ hk => hk.2) (.int .i64 t181)) (fun _ hk => hk.2) (.int .i64 t182)) (fun _ hk => hk.2) (.slice Ao45 t183.length co45)) (fun _ hk => ⟨hk.1.1.1.2, hk.1.1.2⟩)⟩, ⟨by (with_reducible repeat (first | refine blk_drewN ?_ _ | refine blk_drew ?_ | refine blk_alloc ?_ _)); refine blk_far ?_ NB155_180.out _; (with_reducible repeat (first | refine blk_drewN ?_ _ | refine blk_drew ?_ | refine blk_alloc ?_ _)); refine blk_far ?_ NB155_180.out _; (with_reducible repeat (first | refine blk_drewN ?_ _ | refine blk_drew ?_ | refine blk_alloc ?_ _)); refine blk_far ?_ NB155_180.out _; (with_reducible repeat (first | refine blk_drewN ?_ _ | refine blk_drew ?_ | refine blk_alloc ?_ _)); exact BK155.out⟩, ⟨by (with_reducible repeat (first | refine blk_drewN ?_ _ | refine blk_drew ?_ | refine blk_alloc ?_ _)); refine blk_far ?_ NB173_180.out _; (with_reducible repeat (first | refine blk_drewN ?_ _ | refine blk_drew ?_ | refine blk_alloc ?_ _)); refine blk_far ?_ NB173_180.out _; (with_reducible repeat (first | refine blk_drewN ?_ _ | refine blk_drew ?_ | refine blk_alloc ?_ _)); refine blk_far ?_ NB173_180.out _; (with_reducible repeat (first | refine blk_drewN ?_ _ | refine blk_drew ?_ | refine blk_alloc ?_ _)); exact BK173.out⟩, ⟨by (with_reducible repeat (first | refine blk_drewN ?_ _ | refine blk_drew ?_ | refine blk_alloc ?_ _)); refine blk_put (cs := #[.int .i64 t181, .int .i64 t182, .slice Ao37 t176.length co37]) ?_ 2 _ rfl; (with_reducible repeat (first | refine blk_drewN ?_ _ | refine blk_drew ?_ | refine blk_alloc ?_ _)); refine blk_put (cs := #[.int .i64 t181, .int .i64 t175, .slice Ao37 t176.length co37]) ?_ 1 _ rfl; (with_reducible repeat (first | refine blk_drewN ?_ _ | refine blk_drew ?_ | refine blk_alloc ?_ _)); refine blk_put (cs := #[.int .i64 t174, .int .i64 t175, .slice Ao37 t176.length co37]) ?_ 0 _ rfl; (with_reducible repeat (first | refine blk_drewN ?_ _ | refine blk_drew ?_ | refine blk_alloc ?_ _)); exact BK180.out⟩, ⟨by repeat (first | (with_reducible first | exact HB.out | apply below_alloc | apply pw_below_drewN | apply below_drew1 | refine below_set ?_ GE155.out | refine below_set ?_ GE173.out | refine below_set ?_ GE180.out) | exact HB.out)⟩⟩
              · rw [if_neg c38] at H
                have c38b0 : (t179 == 0) = false := beq_eq_false_iff_ne.mpr c38
                have c38b1 : (t179 != 0) = true := bne_iff_ne.mpr c38
                (first | rw [c38b0] | (simp only [i64_w, i32_w]; rw [c38b0]) | skip)
                have H' := Aside0.mk H
                clear H
                go_wp2
                go_meet
                case rel => exact ⟨_, (t179), (t174), (t175), (t176), (.slice Ao37 t176.length co37), (by first | rfl | (simp; done) | (simp [*]; done)), H', ⟨by have := HJ4.out; first | omega | exact Nat.le_refl _⟩, ⟨by (with_reducible repeat (first | apply Kd.R_alloc | apply Kd.R_drewN | apply Kd.R_drew)); exact Kd.R_mono (Kd.R_far (p := ⟨gb180, 2, none⟩) (Kd.R_far (p := ⟨gb180, 1, none⟩) (Kd.R_far (p := ⟨gb180, 0, none⟩) (Kd.R_types HO166.out BK180.out (by decide)) (fun _ hk => hk.2) (.int .i64 t174)) (fun _ hk => hk.2) (.int .i64 t175)) (fun _ hk => hk.2) (.slice Ao37 t176.length co37)) (fun _ hk => ⟨hk.1.1.2, hk.1.2⟩)⟩, ⟨by (with_reducible repeat (first | apply Kd.R_alloc | apply Kd.R_drewN | apply Kd.R_drew)); exact Kd.R_mono (Kd.R_far (p := ⟨gb180, 2, none⟩) (Kd.R_far (p := ⟨gb180, 1, none⟩) (Kd.R_far (p := ⟨gb180, 0, none⟩) (Kd.R_types HO171.out BK180.out (by decide)) (fun _ hk => hk.2) (.int .i64 t174)) (fun _ hk => hk.2) (.int .i64 t175)) (fun _ hk => hk.2) (.slice Ao37 t176.length co37)) (fun _ hk => ⟨hk.1.1.2, hk.1.2⟩)⟩, ⟨by (with_reducible repeat (first | apply Kd.R_alloc | apply Kd.R_drewN | apply Kd.R_drew)); exact Kd.R_mono (Kd.R_far (p := ⟨gb180, 2, none⟩) (Kd.R_far (p := ⟨gb180, 1, none⟩) (Kd.R_far (p := ⟨gb180, 0, none⟩) (Kd.R_types HO178.out BK180.out (by decide)) (fun _ hk => hk.2) (.int .i64 t174)) (fun _ hk => hk.2) (.int .i64 t175)) (fun _ hk => hk.2) (.slice Ao37 t176.length co37)) (fun _ hk => ⟨hk.1.1.2, hk.1.2⟩)⟩, ⟨by (with_reducible repeat (first | refine blk_drewN ?_ _ | refine blk_drew ?_ | refine blk_alloc ?_ _)); refine blk_far ?_ NB155_180.out _; (with_reducible repeat (first | refine blk_drewN ?_ _ | refine blk_drew ?_ | refine blk_alloc ?_ _)); refine blk_far ?_ NB155_180.out _; (with_reducible repeat (first | refine blk_drewN ?_ _ | refine blk_drew ?_ | refine blk_alloc ?_ _)); refine blk_far ?_ NB155_180.out _; (with_reducible repeat (first | refine blk_drewN ?_ _ | refine blk_drew ?_ | refine blk_alloc ?_ _)); exact BK155.out⟩, ⟨by (with_reducible repeat (first | refine blk_drewN ?_ _ | refine blk_drew ?_ | refine blk_alloc ?_ _)); refine blk_far ?_ NB173_180.out _; (with_reducible repeat (first | refine blk_drewN ?_ _ | refine blk_drew ?_ | refine blk_alloc ?_ _)); refine blk_far ?_ NB173_180.out _; (with_reducible repeat (first | refine blk_drewN ?_ _ | refine blk_drew ?_ | refine blk_alloc ?_ _)); refine blk_far ?_ NB173_180.out _; (with_reducible repeat (first | refine blk_drewN ?_ _ | refine blk_drew ?_ | refine blk_alloc ?_ _)); exact BK173.out⟩, ⟨by (with_reducible repeat (first | refine blk_drewN ?_ _ | refine blk_drew ?_ | refine blk_alloc ?_ _)); refine blk_put (cs := #[.int .i64 t174, .int .i64 t175, .slice none 0 0]) ?_ 2 _ rfl; (with_reducible repeat (first | refine blk_drewN ?_ _ | refine blk_drew ?_ | refine blk_alloc ?_ _)); refine blk_put (cs := #[.int .i64 t174, .int .i64 0, .slice none 0 0]) ?_ 1 _ rfl; (with_reducible repeat (first | refine blk_drewN ?_ _ | refine blk_drew ?_ | refine blk_alloc ?_ _)); refine blk_put (cs := #[.int .i64 0, .int .i64 0, .slice none 0 0]) ?_ 0 _ rfl; (with_reducible repeat (first | refine blk_drewN ?_ _ | refine blk_drew ?_ | refine blk_alloc ?_ _)); exact BK180.out⟩, ⟨by repeat (first | (with_reducible first | exact HB.out | apply below_alloc | apply pw_below_drewN | apply below_drew1 | refine below_set ?_ GE155.out | refine below_set ?_ GE173.out | refine below_set ?_ GE180.out) | exact HB.out)⟩⟩
            case rest =>
              clear HC19
              try clear c1
              try clear c2
              try clear p2
              try clear c3
              try clear c4
              try clear p6
              try clear c8
              try clear c9
              try clear c10
              try clear c14
              try clear c15
              try clear c16
              try clear c28
              try clear c34
              try clear c35
              try clear c38
              try clear c38b0
              try clear c38b1
              try clear c40
              try clear c41
              try clear hcz10_0
              try clear hcz10_1
              try clear hcz10_2
              try clear hcz12_0
              try clear hcz12_1
              try clear hcz12_2
              try clear hcz24_0
              try clear hcz24_1
              try clear hcz24_2
              try clear hcz29_0
              try clear hcz29_1
              try clear hcz29_2
              try clear hcz31_0
              try clear hcz31_1
              try clear hcz31_2
              try clear hcz36_0
              try clear hcz36_1
              try clear hcz36_2
              try clear hcz42_0
              try clear hcz42_1
              try clear hcz42_2
              try clear hcz44_0
              try clear hcz44_1
              try clear hcz44_2
              try clear hfz10_0
              try clear hfz10_1
              try clear hfz10_2
              try clear hfz12_0
              try clear hfz12_1
              try clear hfz12_2
              try clear hfz24_0
              try clear hfz24_1
              try clear hfz24_2
              try clear hfz29_0
              try clear hfz29_1
              try clear hfz29_2
              try clear hfz31_0
              try clear hfz31_1
              try clear hfz31_2
              try clear hfz36_0
              try clear hfz36_1
              try clear hfz36_2
              try clear hfz42_0
              try clear hfz42_1
              try clear hfz42_2
              try clear hfz44_0
              try clear hfz44_1
              try clear hfz44_2
              try clear p2
              try clear p6
              obtain ⟨kq, x12_18, x181000_18, x181001_18, x181002_18, u181002, rfl, HA, HJ18, HO_8, HO_174002, HO_181002, BK155, BK173, BK180, HB⟩ := hcut
              cases kq with
              | zero => exact absurd HA.out (by simp [exerguelaw04_TankParts.j1])
              | succ kj18 =>
                have H := HA.out
                clear HA
                simp only [exerguelaw04_TankParts.j1] at H
                by_cases c46 : t172 = x12_18
                · rw [if_pos c46] at H
                  have c46b0 : (t172 == x12_18) = true := beq_iff_eq.mpr c46
                  have c46b1 : (t172 != x12_18) = false := bne_eq_false_iff_eq.mpr c46
                  clear c46
                  replace H := Option.bind_eq_some_iff.mp H
                  obtain ⟨t187, A470, H⟩ := H
                  replace H : (if t187 = true then (if (t169.length : Int) < (l0_2.length : Int) then (some false) else (if (t169.length : Int) > (wrap64 ((l0_2.length : Int) + (y164.length : Int))) then (some false) else (if t156 = true then ((some (([] : List Int) : List Int)).bind fun y188 => (if y188.length + l0_2.length < 35184372088832 then ((some (y188 ++ l0_2 : List Int)).bind fun y191 => (if 0 ≤ (wrap64 ((t169.length : Int) - (l0_2.length : Int))) then (if (wrap64 ((t169.length : Int) - (l0_2.length : Int))) ≤ (y164.length : Int) then ((some (y164.take ((wrap64 ((t169.length : Int) - (l0_2.length : Int))) : Int).toNat : List Int)).bind fun y194 => (if y191.length + y194.length < 35184372088832 then ((exergueref01_Same.f kj18 t169 (y191 ++ y194)).bind fun t201 => (if t201 = true then (some ((t172 != 0) == (decide ((wrap64 ((t169.length : Int) - (l0_2.length : Int))) < (y164.length : Int))))) else (some false))) else (none))) else (none)) else (none))) else (none))) else (some false)))) else (some false)) = some r := H
                  have A47 := Aside0.mk A470
                  clear A470
                  by_cases c48 : t187 = true
                  · subst c48
                    have H1 : (if (t169.length : Int) < (l0_2.length : Int) then (some false) else (if (t169.length : Int) > (wrap64 ((l0_2.length : Int) + (y164.length : Int))) then (some false) else (if t156 = true then ((some (([] : List Int) : List Int)).bind fun y188 => (if y188.length + l0_2.length < 35184372088832 then ((some (y188 ++ l0_2 : List Int)).bind fun y191 => (if 0 ≤ (wrap64 ((t169.length : Int) - (l0_2.length : Int))) then (if (wrap64 ((t169.length : Int) - (l0_2.length : Int))) ≤ (y164.length : Int) then ((some (y164.take ((wrap64 ((t169.length : Int) - (l0_2.length : Int))) : Int).toNat : List Int)).bind fun y194 => (if y191.length + y194.length < 35184372088832 then ((exergueref01_Same.f kj18 t169 (y191 ++ y194)).bind fun t201 => (if t201 = true then (some ((t172 != 0) == (decide ((wrap64 ((t169.length : Int) - (l0_2.length : Int))) < (y164.length : Int))))) else (some false))) else (none))) else (none)) else (none))) else (none))) else (some false)))) = some r := by rw [if_pos rfl] at H; exact H
                    clear H
                    have H := H1
                    clear H1
                    by_cases c49 : (t169.length : Int) < (l0_2.length : Int)
                    · rw [if_pos c49] at H
                      have c49b0 : decide ((t169.length : Int) < (l0_2.length : Int)) = true := decide_eq_true c49
                      have c49b1 : decide (t169.length < l0_2.length) = true := decide_eq_true (Int.ofNat_lt.mp c49)
                      clear c49
                      obtain rfl := Option.some.inj H
                      have hnb50 := NB173_155.out
                      have hnc50 := NB155_173.out
                      have hnb51 := NB173_180.out
                      have hnc51 := NB180_173.out
                      have hcz52_0 : wc.cell? ⟨gb173, 0, none⟩ = some (.int .i64 t167) := (blk_cell BK173.out 0).trans rfl
                      have hcz52_1 : wc.cell? ⟨gb173, 1, none⟩ = some (.int .i64 t168) := (blk_cell BK173.out 1).trans rfl
                      have hcz52_2 : wc.cell? ⟨gb173, 2, none⟩ = some (.slice Ao30 t169.length co30) := (blk_cell BK173.out 2).trans rfl
                      have hfz52_0 := blk_frozen BK173.out 0
                      have hfz52_1 := blk_frozen BK173.out 1
                      have hfz52_2 := blk_frozen BK173.out 2
                      have hnb53 := NB180_155.out
                      have hnc53 := NB155_180.out
                      have hcz54_0 : wc.cell? ⟨gb180, 0, none⟩ = some (.int .i64 x181000_18) := (blk_cell BK180.out 0).trans rfl
                      have hcz54_1 : wc.cell? ⟨gb180, 1, none⟩ = some (.int .i64 x181001_18) := (blk_cell BK180.out 1).trans rfl
                      have hcz54_2 : wc.cell? ⟨gb180, 2, none⟩ = some (u181002) := (blk_cell BK180.out 2).trans rfl
                      have hfz54_0 := blk_frozen BK180.out 0
                      have hfz54_1 := blk_frozen BK180.out 1
                      have hfz54_2 := blk_frozen BK180.out 2
                      obtain ⟨Ao55, co55, eo55⟩ := Kd.R_slice HO_181002.out
                      subst eo55
                      go_wp2_with (first | (go_at_call 11; (with_reducible refine (exergueref04_Same.calls kj18 t167 t168 _ _ t169 x181000_18 x181001_18 _ _ x181002_18 true _ ?side1 ?side2 ?side3 ?side4 A47.out).mono ?_); (case side1 => repeat (first | exact (Kd.R_reads' HO_174002.out).2.2 | (with_reducible refine Kd.C_alloc ?_ _) | (with_reducible refine Kd.C_drewN ?_ _) | (with_reducible refine Kd.C_drew ?_))); (case side2 => exact (Kd.R_reads' HO_174002.out).2.1); (case side3 => repeat (first | exact (Kd.R_reads' HO_181002.out).2.2 | (with_reducible refine Kd.C_alloc ?_ _) | (with_reducible refine Kd.C_drewN ?_ _) | (with_reducible refine Kd.C_drew ?_))); (case side4 => exact (Kd.R_reads' HO_181002.out).2.1); rintro e w56 ⟨rfl, hb⟩; have n0_ := Aside0.mk (Kd.R_below (by (with_reducible repeat (first | apply Kd.R_alloc | apply Kd.R_drewN | apply Kd.R_drew)); exact HO_8.out) hb); have n1_ := Aside0.mk (Kd.R_below (by (with_reducible repeat (first | apply Kd.R_alloc | apply Kd.R_drewN | apply Kd.R_drew)); exact HO_174002.out) hb); have n2_ := Aside0.mk (Kd.R_below (by (with_reducible repeat (first | apply Kd.R_alloc | apply Kd.R_drewN | apply Kd.R_drew)); exact HO_181002.out) hb); have n3_ := Aside0.mk (blk_below (g := gb155) (o := .cells #[.int .i64 a0_0, .int .i64 a0_1, .slice A0_2 l0_2.length c0_2] 24 (0, 0)) (by (with_reducible repeat (first | refine blk_drewN ?_ _ | refine blk_drew ?_ | refine blk_alloc ?_ _)); exact BK155.out) hb); have n4_ := Aside0.mk (blk_below (g := gb173) (o := .cells #[.int .i64 t167, .int .i64 t168, .slice Ao30 t169.length co30] 24 (0, 0)) (by (with_reducible repeat (first | refine blk_drewN ?_ _ | refine blk_drew ?_ | refine blk_alloc ?_ _)); exact BK173.out) hb); have n5_ := Aside0.mk (blk_below (g := gb180) (o := .cells #[.int .i64 x181000_18, .int .i64 x181001_18, .slice Ao55 x181002_18.length co55] 24 (0, 0)) (by (with_reducible repeat (first | refine blk_drewN ?_ _ | refine blk_drew ?_ | refine blk_alloc ?_ _)); exact BK180.out) hb); have n6_ := Aside0.mk (below_step (by repeat (first | (with_reducible first | exact HB.out | apply below_alloc | apply pw_below_drewN | apply below_drew1 | refine below_set ?_ GE155.out | refine below_set ?_ GE173.out | refine below_set ?_ GE180.out) | exact HB.out)) hb); clear HO_8; clear HO_174002; clear HO_181002; clear BK155; clear BK173; clear BK180; clear HB; have HO_8 := n0_; have HO_174002 := n1_; have HO_181002 := n2_; have BK155 := n3_; have BK173 := n4_; have BK180 := n5_; have HB := n6_; clear n0_ n1_ n2_ n3_ n4_ n5_ n6_; (try clear hb); (try clear hb2); (try clear hk); (try clear hi); have hcz57_0 : w56.cell? ⟨gb173, 0, none⟩ = some (.int .i64 t167) := (blk_cell BK173.out 0).trans rfl; have hcz57_1 : w56.cell? ⟨gb173, 1, none⟩ = some (.int .i64 t168) := (blk_cell BK173.out 1).trans rfl; have hcz57_2 : w56.cell? ⟨gb173, 2, none⟩ = some (.slice Ao30 t169.length co30) := (blk_cell BK173.out 2).trans rfl; have hfz57_0 := blk_frozen BK173.out 0; have hfz57_1 := blk_frozen BK173.out 1; have hfz57_2 := blk_frozen BK173.out 2; have hcz58_0 : w56.cell? ⟨gb155, 0, none⟩ = some (.int .i64 a0_0) := (blk_cell BK155.out 0).trans rfl; have hcz58_1 : w56.cell? ⟨gb155, 1, none⟩ = some (.int .i64 a0_1) := (blk_cell BK155.out 1).trans rfl; have hcz58_2 : w56.cell? ⟨gb155, 2, none⟩ = some (.slice A0_2 l0_2.length c0_2) := (blk_cell BK155.out 2).trans rfl; have hfz58_0 := blk_frozen BK155.out 0; have hfz58_1 := blk_frozen BK155.out 1; have hfz58_2 := blk_frozen BK155.out 2))
                      go_ret
                      exact ⟨by first | rfl | (simp [errW_none, errW_some] <;> rfl) | (simp [*, errW_none, errW_some] <;> rfl), by repeat (first | (with_reducible first | exact HB.out | apply below_alloc | apply pw_below_drewN | apply below_drew1 | refine below_set ?_ GE155.out | refine below_set ?_ GE173.out | refine below_set ?_ GE180.out) | exact HB.out)⟩
                    · rw [if_neg c49] at H
                      have c49b0 : decide ((t169.length : Int) < (l0_2.length : Int)) = false := decide_eq_false c49
                      have c49b1 : decide (t169.length < l0_2.length) = false := decide_eq_false (fun h => c49 (Int.ofNat_lt.mpr h))
                      clear c49
                      by_cases c59 : (t169.length : Int) > (wrap64 ((l0_2.length : Int) + (y164.length : Int)))
                      · rw [if_pos c59] at H
                        have c59b0 : decide ((wrap64 ((l0_2.length : Int) + (y164.length : Int))) < (t169.length : Int)) = true := decide_eq_true c59
                        clear c59
                        obtain rfl := Option.some.inj H
                        have hnb60 := NB173_155.out
                        have hnc60 := NB155_173.out
                        have hnb61 := NB173_180.out
                        have hnc61 := NB180_173.out
                        have hcz62_0 : wc.cell? ⟨gb173, 0, none⟩ = some (.int .i64 t167) := (blk_cell BK173.out 0).trans rfl
                        have hcz62_1 : wc.cell? ⟨gb173, 1, none⟩ = some (.int .i64 t168) := (blk_cell BK173.out 1).trans rfl
                        have hcz62_2 : wc.cell? ⟨gb173, 2, none⟩ = some (.slice Ao30 t169.length co30) := (blk_cell BK173.out 2).trans rfl
                        have hfz62_0 := blk_frozen BK173.out 0
                        have hfz62_1 := blk_frozen BK173.out 1
                        have hfz62_2 := blk_frozen BK173.out 2
                        have hnb63 := NB180_155.out
                        have hnc63 := NB155_180.out
                        have hcz64_0 : wc.cell? ⟨gb180, 0, none⟩ = some (.int .i64 x181000_18) := (blk_cell BK180.out 0).trans rfl
                        have hcz64_1 : wc.cell? ⟨gb180, 1, none⟩ = some (.int .i64 x181001_18) := (blk_cell BK180.out 1).trans rfl
                        have hcz64_2 : wc.cell? ⟨gb180, 2, none⟩ = some (u181002) := (blk_cell BK180.out 2).trans rfl
                        have hfz64_0 := blk_frozen BK180.out 0
                        have hfz64_1 := blk_frozen BK180.out 1
                        have hfz64_2 := blk_frozen BK180.out 2
                        obtain ⟨Ao65, co65, eo65⟩ := Kd.R_slice HO_181002.out
                        subst eo65
                        go_wp2_with (first | (go_at_call 11; (with_reducible refine (exergueref04_Same.calls kj18 t167 t168 _ _ t169 x181000_18 x181001_18 _ _ x181002_18 true _ ?side1 ?side2 ?side3 ?side4 A47.out).mono ?_); (case side1 => repeat (first | exact (Kd.R_reads' HO_174002.out).2.2 | (with_reducible refine Kd.C_alloc ?_ _) | (with_reducible refine Kd.C_drewN ?_ _) | (with_reducible refine Kd.C_drew ?_))); (case side2 => exact (Kd.R_reads' HO_174002.out).2.1); (case side3 => repeat (first | exact (Kd.R_reads' HO_181002.out).2.2 | (with_reducible refine Kd.C_alloc ?_ _) | (with_reducible refine Kd.C_drewN ?_ _) | (with_reducible refine Kd.C_drew ?_))); (case side4 => exact (Kd.R_reads' HO_181002.out).2.1); rintro e w66 ⟨rfl, hb⟩; have n0_ := Aside0.mk (Kd.R_below (by (with_reducible repeat (first | apply Kd.R_alloc | apply Kd.R_drewN | apply Kd.R_drew)); exact HO_8.out) hb); have n1_ := Aside0.mk (Kd.R_below (by (with_reducible repeat (first | apply Kd.R_alloc | apply Kd.R_drewN | apply Kd.R_drew)); exact HO_174002.out) hb); have n2_ := Aside0.mk (Kd.R_below (by (with_reducible repeat (first | apply Kd.R_alloc | apply Kd.R_drewN | apply Kd.R_drew)); exact HO_181002.out) hb); have n3_ := Aside0.mk (blk_below (g := gb155) (o := .cells #[.int .i64 a0_0, .int .i64 a0_1, .slice A0_2 l0_2.length c0_2] 24 (0, 0)) (by (with_reducible repeat (first | refine blk_drewN ?_ _ | refine blk_drew ?_ | refine blk_alloc ?_ _)); exact BK155.out) hb); have n4_ := Aside0.mk (blk_below (g := gb173) (o := .cells #[.int .i64 t167, .int .i64 t168, .slice Ao30 t169.length co30] 24 (0, 0)) (by (with_reducible repeat (first | refine blk_drewN ?_ _ | refine blk_drew ?_ | refine blk_alloc ?_ _)); exact BK173.out) hb); have n5_ := Aside0.mk (blk_below (g := gb180) (o := .cells #[.int .i64 x181000_18, .int .i64 x181001_18, .slice Ao65 x181002_18.length co65] 24 (0, 0)) (by (with_reducible repeat (first | refine blk_drewN ?_ _ | refine blk_drew ?_ | refine blk_alloc ?_ _)); exact BK180.out) hb); have n6_ := Aside0.mk (below_step (by repeat (first | (with_reducible first | exact HB.out | apply below_alloc | apply pw_below_drewN | apply below_drew1 | refine below_set ?_ GE155.out | refine below_set ?_ GE173.out | refine below_set ?_ GE180.out) | exact HB.out)) hb); clear HO_8; clear HO_174002; clear HO_181002; clear BK155; clear BK173; clear BK180; clear HB; have HO_8 := n0_; have HO_174002 := n1_; have HO_181002 := n2_; have BK155 := n3_; have BK173 := n4_; have BK180 := n5_; have HB := n6_; clear n0_ n1_ n2_ n3_ n4_ n5_ n6_; (try clear hb); (try clear hb2); (try clear hk); (try clear hi); have hcz67_0 : w66.cell? ⟨gb173, 0, none⟩ = some (.int .i64 t167) := (blk_cell BK173.out 0).trans rfl; have hcz67_1 : w66.cell? ⟨gb173, 1, none⟩ = some (.int .i64 t168) := (blk_cell BK173.out 1).trans rfl; have hcz67_2 : w66.cell? ⟨gb173, 2, none⟩ = some (.slice Ao30 t169.length co30) := (blk_cell BK173.out 2).trans rfl; have hfz67_0 := blk_frozen BK173.out 0; have hfz67_1 := blk_frozen BK173.out 1; have hfz67_2 := blk_frozen BK173.out 2; have hcz68_0 : w66.cell? ⟨gb155, 0, none⟩ = some (.int .i64 a0_0) := (blk_cell BK155.out 0).trans rfl; have hcz68_1 : w66.cell? ⟨gb155, 1, none⟩ = some (.int .i64 a0_1) := (blk_cell BK155.out 1).trans rfl; have hcz68_2 : w66.cell? ⟨gb155, 2, none⟩ = some (.slice A0_2 l0_2.length c0_2) := (blk_cell BK155.out 2).trans rfl; have hfz68_0 := blk_frozen BK155.out 0; have hfz68_1 := blk_frozen BK155.out 1; have hfz68_2 := blk_frozen BK155.out 2))
                        go_ret
                        exact ⟨by first | rfl | (simp [errW_none, errW_some] <;> rfl) | (simp [*, errW_none, errW_some] <;> rfl), by repeat (first | (with_reducible first | exact HB.out | apply below_alloc | apply pw_below_drewN | apply below_drew1 | refine below_set ?_ GE155.out | refine below_set ?_ GE173.out | refine below_set ?_ GE180.out) | exact HB.out)⟩
                      · rw [if_neg c59] at H
                        have c59b0 : decide ((wrap64 ((l0_2.length : Int) + (y164.length : Int))) < (t169.length : Int)) = false := decide_eq_false c59
                        clear c59
                        by_cases c69 : t156 = true
                        · subst c69
                          have H1 : ((some (([] : List Int) : List Int)).bind fun y188 => (if y188.length + l0_2.length < 35184372088832 then ((some (y188 ++ l0_2 : List Int)).bind fun y191 => (if 0 ≤ (wrap64 ((t169.length : Int) - (l0_2.length : Int))) then (if (wrap64 ((t169.length : Int) - (l0_2.length : Int))) ≤ (y164.length : Int) then ((some (y164.take ((wrap64 ((t169.length : Int) - (l0_2.length : Int))) : Int).toNat : List Int)).bind fun y194 => (if y191.length + y194.length < 35184372088832 then ((exergueref01_Same.f kj18 t169 (y191 ++ y194)).bind fun t201 => (if t201 = true then (some ((t172 != 0) == (decide ((wrap64 ((t169.length : Int) - (l0_2.length : Int))) < (y164.length : Int))))) else (some false))) else (none))) else (none)) else (none))) else (none))) = some r := by rw [if_pos rfl] at H; exact H
                          clear H
                          have H := H1
                          clear H1
                          obtain ⟨y188, hy188⟩ : ∃ y_ : List Int, y_ = (([] : List Int)) := ⟨_, rfl⟩
                          replace H : (if y188.length + l0_2.length < 35184372088832 then ((some (y188 ++ l0_2 : List Int)).bind fun y191 => (if 0 ≤ (wrap64 ((t169.length : Int) - (l0_2.length : Int))) then (if (wrap64 ((t169.length : Int) - (l0_2.length : Int))) ≤ (y164.length : Int) then ((some (y164.take ((wrap64 ((t169.length : Int) - (l0_2.length : Int))) : Int).toNat : List Int)).bind fun y194 => (if y191.length + y194.length < 35184372088832 then ((exergueref01_Same.f kj18 t169 (y191 ++ y194)).bind fun t201 => (if t201 = true then (some ((t172 != 0) == (decide ((wrap64 ((t169.length : Int) - (l0_2.length : Int))) < (y164.length : Int))))) else (some false))) else (none))) else (none)) else (none))) else (none)) = some r := by first | (rw [hy188]; with_reducible exact H) | (have H2_ := (Option.bind_some _ _).symm.trans H; rw [hy188]; with_reducible exact H2_) | (have H2_ := (Option.bind_some _ _).symm.trans H; with_reducible exact H2_) | with_reducible exact H | (rw [hy188]; exact H) | exact H
                          have Ny188 := Aside0.mk hy188
                          clear hy188
                          by_cases c70 : y188.length + l0_2.length < 35184372088832
                          · rw [if_pos c70] at H
                            have LMc70 := Aside0.mk c70
                            clear c70
                            obtain ⟨y191, hy191⟩ : ∃ y_ : List Int, y_ = (y188 ++ l0_2) := ⟨_, rfl⟩
                            replace H : (if 0 ≤ (wrap64 ((t169.length : Int) - (l0_2.length : Int))) then (if (wrap64 ((t169.length : Int) - (l0_2.length : Int))) ≤ (y164.length : Int) then ((some (y164.take ((wrap64 ((t169.length : Int) - (l0_2.length : Int))) : Int).toNat : List Int)).bind fun y194 => (if y191.length + y194.length < 35184372088832 then ((exergueref01_Same.f kj18 t169 (y191 ++ y194)).bind fun t201 => (if t201 = true then (some ((t172 != 0) == (decide ((wrap64 ((t169.length : Int) - (l0_2.length : Int))) < (y164.length : Int))))) else (some false))) else (none))) else (none)) else (none)) = some r := by first | (rw [hy191]; with_reducible exact H) | (have H2_ := (Option.bind_some _ _).symm.trans H; rw [hy191]; with_reducible exact H2_) | (have H2_ := (Option.bind_some _ _).symm.trans H; with_reducible exact H2_) | with_reducible exact H | (rw [hy191]; exact H) | exact H
                            have Ny191 := Aside0.mk hy191
                            clear hy191
                            obtain ⟨ji71, hji71⟩ : ∃ j_ : Int, (wrap64 ((t169.length : Int) - (l0_2.length : Int))) = j_ := ⟨_, rfl⟩
                            replace H : (if 0 ≤ (ji71) then (if (ji71) ≤ (y164.length : Int) then ((some (y164.take ((ji71) : Int).toNat : List Int)).bind fun y194 => (if y191.length + y194.length < 35184372088832 then ((exergueref01_Same.f kj18 t169 (y191 ++ y194)).bind fun t201 => (if t201 = true then (some ((t172 != 0) == (decide ((ji71) < (y164.length : Int))))) else (some false))) else (none))) else (none)) else (none)) = some r := by first | (rw [hji71] at H; exact H) | (simp only [hji71] at H ⊢; exact H)
                            (try rw [hji71] at A47)
                            have hji71w : (IntKind.i64.wrap ((t169.length : Int) - (l0_2.length : Int))) = ji71 := (i64_w _).trans hji71
                            by_cases c72 : 0 ≤ (ji71)
                            · rw [if_pos c72] at H
                              have c72b0 := eq_true c72
                              have c72b1 : decide (0 ≤ (ji71)) = true := decide_eq_true c72
                              clear c72
                              by_cases c73 : (ji71) ≤ (y164.length : Int)
                              · rw [if_pos c73] at H
                                have c73b0 := eq_true c73
                                have c73b1 : decide ((ji71) ≤ (y164.length : Int)) = true := decide_eq_true c73
                                clear c73
                                obtain ⟨y194, hy194⟩ : ∃ y_ : List Int, y_ = (y164.take ((ji71) : Int).toNat) := ⟨_, rfl⟩
                                replace H : (if y191.length + y194.length < 35184372088832 then ((exergueref01_Same.f kj18 t169 (y191 ++ y194)).bind fun t201 => (if t201 = true then (some ((t172 != 0) == (decide ((ji71) < (y164.length : Int))))) else (some false))) else (none)) = some r := by first | (rw [hy194]; with_reducible exact H) | (have H2_ := (Option.bind_some _ _).symm.trans H; rw [hy194]; with_reducible exact H2_) | (have H2_ := (Option.bind_some _ _).symm.trans H; with_reducible exact H2_) | with_reducible exact H | (rw [hy194]; exact H) | exact H
                                have Ny194 := Aside0.mk hy194
                                clear hy194
                                by_cases c74 : y191.length + y194.length < 35184372088832
                                · rw [if_pos c74] at H
                                  have LMc74 := Aside0.mk c74
                                  clear c74
                                  obtain ⟨y198, hy198⟩ : ∃ y_ : List Int, y_ = (y191 ++ y194) := ⟨_, rfl⟩
                                  replace H : ((exergueref01_Same.f kj18 t169 y198).bind fun t201 => (if t201 = true then (some ((t172 != 0) == (decide ((ji71) < (y164.length : Int))))) else (some false))) = some r := by first | (rw [hy198]; with_reducible exact H) | (have H2_ := (Option.bind_some _ _).symm.trans H; rw [hy198]; with_reducible exact H2_) | (have H2_ := (Option.bind_some _ _).symm.trans H; with_reducible exact H2_) | with_reducible exact H | (rw [hy198]; exact H) | exact H
                                  have Ny198 := Aside0.mk hy198
                                  clear hy198
                                  replace H := Option.bind_eq_some_iff.mp H
                                  obtain ⟨t201, A750, H⟩ := H
                                  replace H : (if t201 = true then (some ((t172 != 0) == (decide ((ji71) < (y164.length : Int))))) else (some false)) = some r := H
                                  have A75 := Aside0.mk A750
                                  clear A750
                                  by_cases c76 : t201 = true
                                  · subst c76
                                    have H1 : (some ((t172 != 0) == (decide ((ji71) < (y164.length : Int))))) = some r := by rw [if_pos rfl] at H; exact H
                                    clear H
                                    have H := H1
                                    clear H1
                                    obtain rfl := Option.some.inj H
                                    have hnb77 := NB173_155.out
                                    have hnc77 := NB155_173.out
                                    have hnb78 := NB173_180.out
                                    have hnc78 := NB180_173.out
                                    have hcz79_0 : wc.cell? ⟨gb173, 0, none⟩ = some (.int .i64 t167) := (blk_cell BK173.out 0).trans rfl
                                    have hcz79_1 : wc.cell? ⟨gb173, 1, none⟩ = some (.int .i64 t168) := (blk_cell BK173.out 1).trans rfl
                                    have hcz79_2 : wc.cell? ⟨gb173, 2, none⟩ = some (.slice Ao30 t169.length co30) := (blk_cell BK173.out 2).trans rfl
                                    have hfz79_0 := blk_frozen BK173.out 0
                                    have hfz79_1 := blk_frozen BK173.out 1
                                    have hfz79_2 := blk_frozen BK173.out 2
                                    have hnb80 := NB180_155.out
                                    have hnc80 := NB155_180.out
                                    have hcz81_0 : wc.cell? ⟨gb180, 0, none⟩ = some (.int .i64 x181000_18) := (blk_cell BK180.out 0).trans rfl
                                    have hcz81_1 : wc.cell? ⟨gb180, 1, none⟩ = some (.int .i64 x181001_18) := (blk_cell BK180.out 1).trans rfl
                                    have hcz81_2 : wc.cell? ⟨gb180, 2, none⟩ = some (u181002) := (blk_cell BK180.out 2).trans rfl
                                    have hfz81_0 := blk_frozen BK180.out 0
                                    have hfz81_1 := blk_frozen BK180.out 1
                                    have hfz81_2 := blk_frozen BK180.out 2
                                    obtain ⟨Ao82, co82, eo82⟩ := Kd.R_slice HO_181002.out
                                    subst eo82
                                    try go_wp2_with (first | (go_at_call 11; (with_reducible refine (exergueref04_Same.calls kj18 t167 t168 _ _ t169 x181000_18 x181001_18 _ _ x181002_18 true _ ?side1 ?side2 ?side3 ?side4 A47.out).mono ?_); (case side1 => repeat (first | exact (Kd.R_reads' HO_174002.out).2.2 | (with_reducible refine Kd.C_alloc ?_ _) | (with_reducible refine Kd.C_drewN ?_ _) | (with_reducible refine Kd.C_drew ?_))); (case side2 => exact (Kd.R_reads' HO_174002.out).2.1); (case side3 => repeat (first | exact (Kd.R_reads' HO_181002.out).2.2 | (with_reducible refine Kd.C_alloc ?_ _) | (with_reducible refine Kd.C_drewN ?_ _) | (with_reducible refine Kd.C_drew ?_))); (case side4 => exact (Kd.R_reads' HO_181002.out).2.1); rintro e w83 ⟨rfl, hb⟩; have n0_ := Aside0.mk (Kd.R_below (by (with_reducible repeat (first | apply Kd.R_alloc | apply Kd.R_drewN | apply Kd.R_drew)); exact HO_8.out) hb); have n1_ := Aside0.mk (Kd.R_below (by (with_reducible repeat (first | apply Kd.R_alloc | apply Kd.R_drewN | apply Kd.R_drew)); exact HO_174002.out) hb); have n2_ := Aside0.mk (Kd.R_below (by (with_reducible repeat (first | apply Kd.R_alloc | apply Kd.R_drewN | apply Kd.R_drew)); exact HO_181002.out) hb); have n3_ := Aside0.mk (blk_below (g := gb155) (o := .cells #[.int .i64 a0_0, .int .i64 a0_1, .slice A0_2 l0_2.length c0_2] 24 (0, 0)) (by (with_reducible repeat (first | refine blk_drewN ?_ _ | refine blk_drew ?_ | refine blk_alloc ?_ _)); exact BK155.out) hb); have n4_ := Aside0.mk (blk_below (g := gb173) (o := .cells #[.int .i64 t167, .int .i64 t168, .slice Ao30 t169.length co30] 24 (0, 0)) (by (with_reducible repeat (first | refine blk_drewN ?_ _ | refine blk_drew ?_ | refine blk_alloc ?_ _)); exact BK173.out) hb); have n5_ := Aside0.mk (blk_below (g := gb180) (o := .cells #[.int .i64 x181000_18, .int .i64 x181001_18, .slice Ao82 x181002_18.length co82] 24 (0, 0)) (by (with_reducible repeat (first | refine blk_drewN ?_ _ | refine blk_drew ?_ | refine blk_alloc ?_ _)); exact BK180.out) hb); have n6_ := Aside0.mk (below_step (by repeat (first | (with_reducible first | exact HB.out | apply below_alloc | apply pw_below_drewN | apply below_drew1 | refine below_set ?_ GE155.out | refine below_set ?_ GE173.out | refine below_set ?_ GE180.out) | exact HB.out)) hb); clear HO_8; clear HO_174002; clear HO_181002; clear BK155; clear BK173; clear BK180; clear HB; have HO_8 := n0_; have HO_174002 := n1_; have HO_181002 := n2_; have BK155 := n3_; have BK173 := n4_; have BK180 := n5_; have HB := n6_; clear n0_ n1_ n2_ n3_ n4_ n5_ n6_; (try clear hb); (try clear hb2); (try clear hk); (try clear hi); have hcz84_0 : w83.cell? ⟨gb173, 0, none⟩ = some (.int .i64 t167) := (blk_cell BK173.out 0).trans rfl; have hcz84_1 : w83.cell? ⟨gb173, 1, none⟩ = some (.int .i64 t168) := (blk_cell BK173.out 1).trans rfl; have hcz84_2 : w83.cell? ⟨gb173, 2, none⟩ = some (.slice Ao30 t169.length co30) := (blk_cell BK173.out 2).trans rfl; have hfz84_0 := blk_frozen BK173.out 0; have hfz84_1 := blk_frozen BK173.out 1; have hfz84_2 := blk_frozen BK173.out 2; have hcz85_0 : w83.cell? ⟨gb155, 0, none⟩ = some (.int .i64 a0_0) := (blk_cell BK155.out 0).trans rfl; have hcz85_1 : w83.cell? ⟨gb155, 1, none⟩ = some (.int .i64 a0_1) := (blk_cell BK155.out 1).trans rfl; have hcz85_2 : w83.cell? ⟨gb155, 2, none⟩ = some (.slice A0_2 l0_2.length c0_2) := (blk_cell BK155.out 2).trans rfl; have hfz85_0 := blk_frozen BK155.out 0; have hfz85_1 := blk_frozen BK155.out 1; have hfz85_2 := blk_frozen BK155.out 2))
                                    have n0_ := Aside0.mk (Kd.R_drew HO_8.out)
                                    have n1_ := Aside0.mk (Kd.R_drew HO_174002.out)
                                    have n2_ := Aside0.mk (Kd.R_drew HO_181002.out)
                                    have n3_ := Aside0.mk (blk_drew BK155.out)
                                    have n4_ := Aside0.mk (blk_drew BK173.out)
                                    have n5_ := Aside0.mk (blk_drew BK180.out)
                                    have n6_ := Aside0.mk (below_drew1 HB.out)
                                    clear HO_8
                                    clear HO_174002
                                    clear HO_181002
                                    clear BK155
                                    clear BK173
                                    clear BK180
                                    clear HB
                                    have HO_8 := n0_
                                    have HO_174002 := n1_
                                    have HO_181002 := n2_
                                    have BK155 := n3_
                                    have BK173 := n4_
                                    have BK180 := n5_
                                    have HB := n6_
                                    clear n0_ n1_ n2_ n3_ n4_ n5_ n6_
                                    have q87 : ((ji71) : Int) ≤ ((y164.length : Int) : Int) := of_decide_eq_true (by first | (with_reducible assumption) | assumption)
                                    obtain ⟨i087, hi087, _, hsz87, _⟩ := info_parts info21
                                    have hroom87 : y164.length ≤ co25 := (Kd.R_reads' HO_8.out).2.1
                                    have hC87 : Kd.C (Kd.int .i32) _ Ao25 y164.length y164 := (Kd.R_reads' HO_8.out).2.2
                                    have hcut87 := cut_to (P := Try.prog) 22 21 .i64 Try.underlying22 hi087 Ao25 y164.length co25 (ji71) (of_decide_eq_true (by first | (with_reducible assumption) | assumption)) q87 hroom87
                                    have hr87 := Kd.C_take (m := ((ji71) : Int).toNat) hC87 (by omega)
                                    have hy87 : y194.length = ((ji71) : Int).toNat := (by rw [Ny194.out, List.length_take]; omega)
                                    rw [← Ny194.out] at hr87
                                    rw [← hy87] at hcut87
                                    have HR197 := Aside0.mk hr87
                                    have HC197 := Aside0.mk (show y194.length ≤ co25 from by omega)
                                    clear hr87 hC87 hroom87 hi087 hsz87
                                    have KY87 := Aside0.mk hy87
                                    clear hy87
                                    have KL87 := Aside0.mk (show ((ji71) : Int).toNat ≤ y164.length from by omega)
                                    replace q87 := eq_true q87
                                    refine start_ (n := 24) (S := fun w' => w'.cell? ⟨gb173, 0, none⟩ = some (.int .i64 t167) ∧ w'.cell? ⟨gb173, 1, none⟩ = some (.int .i64 t168) ∧ w'.cell? ⟨gb173, 2, none⟩ = some (.slice Ao30 t169.length co30) ∧ w'.cell? ⟨gb155, 0, none⟩ = some (.int .i64 a0_0) ∧ w'.cell? ⟨gb155, 1, none⟩ = some (.int .i64 a0_1) ∧ w'.cell? ⟨gb155, 2, none⟩ = some (.slice A0_2 l0_2.length c0_2)) (ds := []) #[false, false, false, false, false, false, false, false, false, false, false, false, false, false, false, false, false, false, false, false, false, false, false, false] (by kernel_rfl) rfl rfl ⟨(blk_cell BK173.out 0).trans rfl, (blk_cell BK173.out 1).trans rfl, (blk_cell BK173.out 2).trans rfl, (blk_cell BK155.out 0).trans rfl, (blk_cell BK155.out 1).trans rfl, (blk_cell BK155.out 2).trans rfl⟩ (fun hHeld => ?_); refine with_tabW exerguelaw04_TankParts.tab12 exerguelaw04_TankParts.bits12 (fun HT_ HW_ => ?_)
                                    generalize w83.drew = w86 at HO_8 HO_174002 HO_181002 BK155 BK173 BK180 HB HR197 hHeld ⊢
                                    refine pure_ (i := 0) (N := some 89) (v := ?_) (a' := ?_) #[true, false, false, false, false, false, false, false, false, false, false, false, false, false, false, false, false, false, false, false, false, false, false, false] rfl rfl (any_of HT_.out (by kernel_rfl)) (fun _ _ _ h => h) (Or.inl ⟨by rfl, ?_⟩) ?_ ?_
                                    rotate_left
                                    · intro w'
                                      go_simp
                                      with_reducible rfl
                                    rotate_left
                                    · simp only [Act.put, List.setIfInBounds_toArray, List.set_cons_zero, List.set_cons_succ, i64_w, i32_w]
                                      rfl
                                    refine pure_ (i := 1) (N := some 90) (v := ?_) (a' := ?_) #[true, true, false, false, false, false, false, false, false, false, false, false, false, false, false, false, false, false, false, false, false, false, false, false] rfl rfl (any_of HT_.out (by kernel_rfl)) (fun _ _ _ h => h) (Or.inl ⟨by rfl, ?_⟩) ?_ ?_
                                    rotate_left
                                    · intro w'
                                      go_simp
                                      with_reducible rfl
                                    rotate_left
                                    · simp only [Act.put, List.setIfInBounds_toArray, List.set_cons_zero, List.set_cons_succ, i64_w, i32_w]
                                      rfl
                                    refine pure_ (i := 2) (N := some 91) (v := ?_) (a' := ?_) #[true, true, true, false, false, false, false, false, false, false, false, false, false, false, false, false, false, false, false, false, false, false, false, false] rfl rfl (any_of HT_.out (by kernel_rfl)) (fun _ _ _ h => h) (Or.inl ⟨by rfl, ?_⟩) ?_ ?_
                                    rotate_left
                                    · intro w'
                                      go_simp
                                      with_reducible rfl
                                    rotate_left
                                    · simp only [Act.put, List.setIfInBounds_toArray, List.set_cons_zero, List.set_cons_succ, i64_w, i32_w]
                                      rfl
                                    refine pure_ (i := 5) (N := some 94) (v := ?_) (a' := ?_) #[true, true, true, false, false, true, false, false, false, false, false, false, false, false, false, false, false, false, false, false, false, false, false, false] rfl rfl (any_of HT_.out (by kernel_rfl)) (fun _ _ _ h => h) (Or.inl ⟨by rfl, ?_⟩) ?_ ?_
                                    rotate_left
                                    · intro w'
                                      go_simp
                                      with_reducible rfl
                                    rotate_left
                                    · simp only [Act.put, List.setIfInBounds_toArray, List.set_cons_zero, List.set_cons_succ, i64_w, i32_w]
                                      rfl
                                    refine pure_ (i := 8) (N := some 97) (v := ?_) (a' := ?_) #[true, true, true, false, false, true, false, false, true, false, false, false, false, false, false, false, false, false, false, false, false, false, false, false] rfl rfl (any_of HT_.out (by kernel_rfl)) (fun _ _ _ h => h) (Or.inl ⟨by rfl, ?_⟩) ?_ ?_
                                    rotate_left
                                    · intro w'
                                      go_simp
                                      with_reducible rfl
                                    rotate_left
                                    · simp only [Act.put, List.setIfInBounds_toArray, List.set_cons_zero, List.set_cons_succ, i64_w, i32_w]
                                      rfl
                                    refine pure_ (i := 9) (N := some 98) (v := ?_) (a' := ?_) #[true, true, true, false, false, true, false, false, true, true, false, false, false, false, false, false, false, false, false, false, false, false, false, false] rfl rfl (any_of HT_.out (by kernel_rfl)) (fun _ _ _ h => h) (Or.inl ⟨by rfl, ?_⟩) ?_ ?_
                                    rotate_left
                                    · intro w'
                                      go_simp
                                      with_reducible rfl
                                    rotate_left
                                    · simp only [Act.put, List.setIfInBounds_toArray, List.set_cons_zero, List.set_cons_succ, i64_w, i32_w]
                                      rfl
                                    refine pure_ (i := 10) (N := some 99) (v := ?_) (a' := ?_) #[true, true, true, false, false, true, false, false, true, true, true, false, false, false, false, false, false, false, false, false, false, false, false, false] rfl rfl (any_of HT_.out (by kernel_rfl)) (fun _ _ _ h => h) (Or.inl ⟨by rfl, ?_⟩) ?_ ?_
                                    rotate_left
                                    · intro w'
                                      go_simp
                                      with_reducible rfl
                                    rotate_left
                                    · simp only [Act.put, List.setIfInBounds_toArray, List.set_cons_zero, List.set_cons_succ, i64_w, i32_w]
                                      rfl
                                    refine take_ (i := 3) (N := some 92) (v := ?_) (a' := ?_) #[true, true, true, true, false, true, false, false, true, true, true, false, false, false, false, false, false, false, false, false, false, false, false, false] rfl rfl (take_ofW HT_.out HW_.out (by kernel_rfl)) (fun _ _ _ h => h) (Or.inl ⟨by rfl, ?_⟩) hHeld ?_ ?_
                                    rotate_left
                                    · rintro w' ⟨s0, s1, s2, s3, s4, s5⟩
                                      go_simp
                                      with_reducible rfl
                                    rotate_left
                                    · simp only [Act.put, List.setIfInBounds_toArray, List.set_cons_zero, List.set_cons_succ, i64_w, i32_w]
                                      rfl
                                    refine take_ (i := 6) (N := some 95) (v := ?_) (a' := ?_) #[true, true, true, true, false, true, true, false, true, true, true, false, false, false, false, false, false, false, false, false, false, false, false, false] rfl rfl (take_ofW HT_.out HW_.out (by kernel_rfl)) (fun _ _ _ h => h) (Or.inl ⟨by rfl, ?_⟩) hHeld ?_ ?_
                                    rotate_left
                                    · rintro w' ⟨s0, s1, s2, s3, s4, s5⟩
                                      go_simp
                                      with_reducible rfl
                                    rotate_left
                                    · simp only [Act.put, List.setIfInBounds_toArray, List.set_cons_zero, List.set_cons_succ, i64_w, i32_w]
                                      rfl
                                    refine one_ (i := 4) (N := some 93) #[true, true, true, true, true, true, true, false, true, true, true, false, false, false, false, false, false, false, false, false, false, false, false, false] rfl rfl (one_of HT_.out (by kernel_rfl)) (by decide) (fun K hK => ?_)
                                    refine Kd.R_lit_step (Kd.int .i32) _ 21 ?hg (N := 93) ?hd (xs := ([] : List Int)) (inner := []) (ok := fun _ => True) (okp := fun _ => True) ?hr ?hp (fun _ hk => hk) trivial (Below.refl _ _) (Nat.le_refl _) (by simp) ?_; (case hd => rfl); (case hg => rfl); (case hr => first | (go_simp; done) | (go_simp; rfl)); (case hp => exact (Reps.none _ _))
                                    intro v189 w88 ho89 hb hg_ hnew_
                                    clear hg_ hnew_
                                    (first | rw [← Ny188.out] at ho89 | (simp only [Int.reduceToNat] at ho89; rw [← Ny188.out] at ho89))
                                    have n0_ := Aside0.mk (Kd.R_elder' (by (with_reducible repeat (first | apply Kd.R_alloc | apply Kd.R_drewN | apply Kd.R_drew)); exact HO_8.out) (Kd.R_base ho89) hb)
                                    have n1_ := Aside0.mk (Kd.R_elder' (by (with_reducible repeat (first | apply Kd.R_alloc | apply Kd.R_drewN | apply Kd.R_drew)); exact HO_174002.out) (Kd.R_base ho89) hb)
                                    have n2_ := Aside0.mk (Kd.R_elder' (by (with_reducible repeat (first | apply Kd.R_alloc | apply Kd.R_drewN | apply Kd.R_drew)); exact HO_181002.out) (Kd.R_base ho89) hb)
                                    have n3_ := Aside0.mk (Kd.R_lower (Kd.R_new' (Kd.R_new' (Kd.R_new' ho89 (Kd.R_lt (by (with_reducible repeat (first | apply Kd.R_alloc | apply Kd.R_drewN | apply Kd.R_drew)); exact HO_8.out))) (Kd.R_lt (by (with_reducible repeat (first | apply Kd.R_alloc | apply Kd.R_drewN | apply Kd.R_drew)); exact HO_174002.out))) (Kd.R_lt (by (with_reducible repeat (first | apply Kd.R_alloc | apply Kd.R_drewN | apply Kd.R_drew)); exact HO_181002.out))) (below_size (by repeat (first | (with_reducible first | exact HB.out | apply below_alloc | apply pw_below_drewN | apply below_drew1 | refine below_set ?_ GE155.out | refine below_set ?_ GE173.out | refine below_set ?_ GE180.out) | exact HB.out))))
                                    have n4_ := Aside0.mk (blk_below (g := gb155) (o := .cells #[.int .i64 a0_0, .int .i64 a0_1, .slice A0_2 l0_2.length c0_2] 24 (0, 0)) (by (with_reducible repeat (first | refine blk_drewN ?_ _ | refine blk_drew ?_ | refine blk_alloc ?_ _)); exact BK155.out) hb)
                                    have n5_ := Aside0.mk (blk_below (g := gb173) (o := .cells #[.int .i64 t167, .int .i64 t168, .slice Ao30 t169.length co30] 24 (0, 0)) (by (with_reducible repeat (first | refine blk_drewN ?_ _ | refine blk_drew ?_ | refine blk_alloc ?_ _)); exact BK173.out) hb)
                                    have n6_ := Aside0.mk (blk_below (g := gb180) (o := .cells #[.int .i64 x181000_18, .int .i64 x181001_18, .slice Ao82 x181002_18.length co82] 24 (0, 0)) (by (with_reducible repeat (first | refine blk_drewN ?_ _ | refine blk_drew ?_ | refine blk_alloc ?_ _)); exact BK180.out) hb)
                                    have n7_ := Aside0.mk (Kd.C_below (by repeat (first | (with_reducible exact HR197.out) | (with_reducible refine Kd.C_alloc ?_ _) | (with_reducible refine Kd.C_drewN ?_ _) | (with_reducible refine Kd.C_drew ?_) | exact HR197.out)) hb)
                                    have n8_ := Aside0.mk (below_step (by repeat (first | (with_reducible first | exact HB.out | apply below_alloc | apply pw_below_drewN | apply below_drew1 | refine below_set ?_ GE155.out | refine below_set ?_ GE173.out | refine below_set ?_ GE180.out) | exact HB.out)) hb)
                                    clear HO_8
                                    clear HO_174002
                                    clear HO_181002
                                    clear BK155
                                    clear BK173
                                    clear BK180
                                    clear HR197
                                    clear HB
                                    have HO_8 := n0_
                                    have HO_174002 := n1_
                                    have HO_181002 := n2_
                                    have HO190 := n3_
                                    have BK155 := n4_
                                    have BK173 := n5_
                                    have BK180 := n6_
                                    have HR197 := n7_
                                    have HB := n8_
                                    clear n0_ n1_ n2_ n3_ n4_ n5_ n6_ n7_ n8_
                                    clear hb ho89
                                    refine hK.out _ _ ⟨(blk_cell BK173.out 0).trans rfl, (blk_cell BK173.out 1).trans rfl, (blk_cell BK173.out 2).trans rfl, (blk_cell BK155.out 0).trans rfl, (blk_cell BK155.out 1).trans rfl, (blk_cell BK155.out 2).trans rfl⟩ (fun hHeld => ?_)
                                    clear hK K
                                    refine norm_ (a' := ?_) ?_ ?_
                                    rotate_left
                                    · show Act.put _ (some 93) _ = _
                                      simp only [Act.put, List.setIfInBounds_toArray, List.set_cons_zero, List.set_cons_succ, i64_w, i32_w]
                                      rfl
                                    refine one_ (i := 7) (N := some 96) #[true, true, true, true, true, true, true, true, true, true, true, false, false, false, false, false, false, false, false, false, false, false, false, false] rfl rfl (one_of HT_.out (by kernel_rfl)) (by decide) (fun K hK => ?_)
                                    refine Kd.R_append_rows_step (Kd.int .i32) (w0 := w) w.heap.size (by rfl) (.tmp 93) (.tmp 95) 22 21 (.int .i32 0) 4 rfl Try.underlying22 info21 rfl (by decide) (by omega) v189 y188 l0_2 _ _ _ (fun k_ => some k_ ≠ (.slice Ao25 y164.length co25 : Value).ownBlock ∧ some k_ ≠ (.slice Ao30 t169.length co30 : Value).ownBlock ∧ some k_ ≠ (.slice Ao82 x181002_18.length co82 : Value).ownBlock) (fun _ => False) rfl rfl ?aO ?aR (fun _ _ h => h) (fun _ h => h.elim) ?aF ?aB ?aS ?aL ?_
                                    (case aR => repeat (first | exact (Kd.C_below HR0_2.out HB.out) | (with_reducible refine Kd.C_alloc ?_ _) | (with_reducible refine Kd.C_drewN ?_ _) | (with_reducible refine Kd.C_drew ?_)))
                                    (case aB => exact (by repeat (first | (with_reducible first | exact HB.out | apply below_alloc | apply pw_below_drewN | apply below_drew1 | refine below_set ?_ GE155.out | refine below_set ?_ GE173.out | refine below_set ?_ GE180.out) | exact HB.out)))
                                    (case aF => exact (fun k_ hk => ⟨Kd.fresh' (Kd.R_lt (by (with_reducible repeat (first | apply Kd.R_alloc | apply Kd.R_drewN | apply Kd.R_drew)); exact HO_8.out)) k_ hk, Kd.fresh' (Kd.R_lt (by (with_reducible repeat (first | apply Kd.R_alloc | apply Kd.R_drewN | apply Kd.R_drew)); exact HO_174002.out)) k_ hk, Kd.fresh' (Kd.R_lt (by (with_reducible repeat (first | apply Kd.R_alloc | apply Kd.R_drewN | apply Kd.R_drew)); exact HO_181002.out)) k_ hk⟩))
                                    (case aO => exact (by (with_reducible repeat (first | apply Kd.R_alloc | apply Kd.R_drewN | apply Kd.R_drew)); exact Kd.R_mono HO190.out (fun _ hk => ⟨hk.1.1.2, ⟨hk.1.2, hk.2⟩⟩)))
                                    (case aS => exact (below_size (by repeat (first | (with_reducible first | exact HB.out | apply below_alloc | apply pw_below_drewN | apply below_drew1 | refine below_set ?_ GE155.out | refine below_set ?_ GE173.out | refine below_set ?_ GE180.out) | exact HB.out))))
                                    (case aL => have := LMc70.out; omega)
                                    intro v192 w90 ho hb hg hat
                                    rw [← Ny191.out] at ho
                                    have n0_ := Aside0.mk (Kd.R_after (ok := (fun k_ => some k_ ≠ (.slice Ao30 t169.length co30 : Value).ownBlock ∧ some k_ ≠ (.slice Ao82 x181002_18.length co82 : Value).ownBlock)) (by (with_reducible repeat (first | apply Kd.R_alloc | apply Kd.R_drewN | apply Kd.R_drew)); exact HO_8.out) hg hat)
                                    have n1_ := Aside0.mk (Kd.R_after (ok := (fun k_ => some k_ ≠ (.slice Ao25 y164.length co25 : Value).ownBlock ∧ some k_ ≠ (.slice Ao82 x181002_18.length co82 : Value).ownBlock)) (by (with_reducible repeat (first | apply Kd.R_alloc | apply Kd.R_drewN | apply Kd.R_drew)); exact HO_174002.out) hg hat)
                                    have n2_ := Aside0.mk (Kd.R_after (ok := (fun k_ => some k_ ≠ (.slice Ao25 y164.length co25 : Value).ownBlock ∧ some k_ ≠ (.slice Ao30 t169.length co30 : Value).ownBlock)) (by (with_reducible repeat (first | apply Kd.R_alloc | apply Kd.R_drewN | apply Kd.R_drew)); exact HO_181002.out) hg hat)
                                    have n3_ := Aside0.mk (blk_grown (g := gb155) (o := .cells #[.int .i64 a0_0, .int .i64 a0_1, .slice A0_2 l0_2.length c0_2] 24 (0, 0)) (by (with_reducible repeat (first | refine blk_drewN ?_ _ | refine blk_drew ?_ | refine blk_alloc ?_ _)); exact BK155.out) hg (Kd.R_ne HO190.out BK155.out (by decide)))
                                    have n4_ := Aside0.mk (blk_grown (g := gb173) (o := .cells #[.int .i64 t167, .int .i64 t168, .slice Ao30 t169.length co30] 24 (0, 0)) (by (with_reducible repeat (first | refine blk_drewN ?_ _ | refine blk_drew ?_ | refine blk_alloc ?_ _)); exact BK173.out) hg (Kd.R_ne HO190.out BK173.out (by decide)))
                                    have n5_ := Aside0.mk (blk_grown (g := gb180) (o := .cells #[.int .i64 x181000_18, .int .i64 x181001_18, .slice Ao82 x181002_18.length co82] 24 (0, 0)) (by (with_reducible repeat (first | refine blk_drewN ?_ _ | refine blk_drew ?_ | refine blk_alloc ?_ _)); exact BK180.out) hg (Kd.R_ne HO190.out BK180.out (by decide)))
                                    have n6_ := Aside0.mk (hb)
                                    have n7_ := Aside0.mk ((show Kd.C (Kd.int .i32) w90 Ao25 y194.length y194 from by rw [Ny194.out]; exact Kd.C_take (m := ((ji71) : Int).toNat) ((Kd.R_reads' (Kd.R_after (ok := (fun k_ => some k_ ≠ (.slice Ao30 t169.length co30 : Value).ownBlock ∧ some k_ ≠ (.slice Ao82 x181002_18.length co82 : Value).ownBlock)) (by (with_reducible repeat (first | apply Kd.R_alloc | apply Kd.R_drewN | apply Kd.R_drew)); exact HO_8.out) hg hat)).2.2) KL87.out))
                                    have n8_ := Aside0.mk (ho)
                                    clear HO_8
                                    clear HO_174002
                                    clear HO_181002
                                    clear BK155
                                    clear BK173
                                    clear BK180
                                    clear HB
                                    clear HR197
                                    clear HO190
                                    have HO_8 := n0_
                                    have HO_174002 := n1_
                                    have HO_181002 := n2_
                                    have BK155 := n3_
                                    have BK173 := n4_
                                    have BK180 := n5_
                                    have HB := n6_
                                    have HR197 := n7_
                                    have HO193 := n8_
                                    clear n0_ n1_ n2_ n3_ n4_ n5_ n6_ n7_ n8_
                                    clear ho hb hg hat
                                    refine hK.out _ _ ⟨(blk_cell BK173.out 0).trans rfl, (blk_cell BK173.out 1).trans rfl, (blk_cell BK173.out 2).trans rfl, (blk_cell BK155.out 0).trans rfl, (blk_cell BK155.out 1).trans rfl, (blk_cell BK155.out 2).trans rfl⟩ (fun hHeld => ?_)
                                    clear hK K
                                    refine norm_ (a' := ?_) ?_ ?_
                                    rotate_left
                                    · show Act.put _ (some 96) _ = _
                                      simp only [Act.put, List.setIfInBounds_toArray, List.set_cons_zero, List.set_cons_succ, i64_w, i32_w]
                                      rfl
                                    refine one_ (i := 11) (N := some 100) #[true, true, true, true, true, true, true, true, true, true, true, true, false, false, false, false, false, false, false, false, false, false, false, false] rfl rfl (one_of HT_.out (by kernel_rfl)) (by decide) (fun K hK => ?_)
                                    refine Kd.R_append_rows_step (Kd.int .i32) (w0 := w) w.heap.size (by rfl) (.tmp 96) (.tmp 99) 22 21 (.int .i32 0) 4 rfl Try.underlying22 info21 rfl (by decide) (by omega) v192 y191 y194 _ _ _ (fun k_ => some k_ ≠ (.slice Ao25 y164.length co25 : Value).ownBlock ∧ some k_ ≠ (.slice Ao30 t169.length co30 : Value).ownBlock ∧ some k_ ≠ (.slice Ao82 x181002_18.length co82 : Value).ownBlock) (fun _ => False) rfl rfl ?aO ?aR (fun _ _ h => h) (fun _ h => h.elim) ?aF ?aB ?aS ?aL ?_
                                    (case aR => repeat (first | exact (by repeat (first | (with_reducible exact HR197.out) | (with_reducible refine Kd.C_alloc ?_ _) | (with_reducible refine Kd.C_drewN ?_ _) | (with_reducible refine Kd.C_drew ?_) | exact HR197.out)) | (with_reducible refine Kd.C_alloc ?_ _) | (with_reducible refine Kd.C_drewN ?_ _) | (with_reducible refine Kd.C_drew ?_)))
                                    (case aB => exact (by repeat (first | (with_reducible first | exact HB.out | apply below_alloc | apply pw_below_drewN | apply below_drew1 | refine below_set ?_ GE155.out | refine below_set ?_ GE173.out | refine below_set ?_ GE180.out) | exact HB.out)))
                                    (case aF => exact (fun k_ hk => ⟨Kd.fresh' (Kd.R_lt (by (with_reducible repeat (first | apply Kd.R_alloc | apply Kd.R_drewN | apply Kd.R_drew)); exact HO_8.out)) k_ hk, Kd.fresh' (Kd.R_lt (by (with_reducible repeat (first | apply Kd.R_alloc | apply Kd.R_drewN | apply Kd.R_drew)); exact HO_174002.out)) k_ hk, Kd.fresh' (Kd.R_lt (by (with_reducible repeat (first | apply Kd.R_alloc | apply Kd.R_drewN | apply Kd.R_drew)); exact HO_181002.out)) k_ hk⟩))
                                    (case aO => exact (by (with_reducible repeat (first | apply Kd.R_alloc | apply Kd.R_drewN | apply Kd.R_drew)); exact HO193.out))
                                    (case aS => exact (below_size (by repeat (first | (with_reducible first | exact HB.out | apply below_alloc | apply pw_below_drewN | apply below_drew1 | refine below_set ?_ GE155.out | refine below_set ?_ GE173.out | refine below_set ?_ GE180.out) | exact HB.out))))
                                    (case aL => have := LMc74.out; omega)
                                    intro v199 w91 ho hb hg hat
                                    rw [← Ny198.out] at ho
                                    have n0_ := Aside0.mk (Kd.R_after (ok := (fun k_ => some k_ ≠ (.slice Ao30 t169.length co30 : Value).ownBlock ∧ some k_ ≠ (.slice Ao82 x181002_18.length co82 : Value).ownBlock)) (by (with_reducible repeat (first | apply Kd.R_alloc | apply Kd.R_drewN | apply Kd.R_drew)); exact HO_8.out) hg hat)
                                    have n1_ := Aside0.mk (Kd.R_after (ok := (fun k_ => some k_ ≠ (.slice Ao25 y164.length co25 : Value).ownBlock ∧ some k_ ≠ (.slice Ao82 x181002_18.length co82 : Value).ownBlock)) (by (with_reducible repeat (first | apply Kd.R_alloc | apply Kd.R_drewN | apply Kd.R_drew)); exact HO_174002.out) hg hat)
                                    have n2_ := Aside0.mk (Kd.R_after (ok := (fun k_ => some k_ ≠ (.slice Ao25 y164.length co25 : Value).ownBlock ∧ some k_ ≠ (.slice Ao30 t169.length co30 : Value).ownBlock)) (by (with_reducible repeat (first | apply Kd.R_alloc | apply Kd.R_drewN | apply Kd.R_drew)); exact HO_181002.out) hg hat)
                                    have n3_ := Aside0.mk (blk_grown (g := gb155) (o := .cells #[.int .i64 a0_0, .int .i64 a0_1, .slice A0_2 l0_2.length c0_2] 24 (0, 0)) (by (with_reducible repeat (first | refine blk_drewN ?_ _ | refine blk_drew ?_ | refine blk_alloc ?_ _)); exact BK155.out) hg (Kd.R_ne HO193.out BK155.out (by decide)))
                                    have n4_ := Aside0.mk (blk_grown (g := gb173) (o := .cells #[.int .i64 t167, .int .i64 t168, .slice Ao30 t169.length co30] 24 (0, 0)) (by (with_reducible repeat (first | refine blk_drewN ?_ _ | refine blk_drew ?_ | refine blk_alloc ?_ _)); exact BK173.out) hg (Kd.R_ne HO193.out BK173.out (by decide)))
                                    have n5_ := Aside0.mk (blk_grown (g := gb180) (o := .cells #[.int .i64 x181000_18, .int .i64 x181001_18, .slice Ao82 x181002_18.length co82] 24 (0, 0)) (by (with_reducible repeat (first | refine blk_drewN ?_ _ | refine blk_drew ?_ | refine blk_alloc ?_ _)); exact BK180.out) hg (Kd.R_ne HO193.out BK180.out (by decide)))
                                    have n6_ := Aside0.mk (hb)
                                    have n7_ := Aside0.mk ((show Kd.C (Kd.int .i32) w91 Ao25 y194.length y194 from by rw [Ny194.out]; exact Kd.C_take (m := ((ji71) : Int).toNat) ((Kd.R_reads' (Kd.R_after (ok := (fun k_ => some k_ ≠ (.slice Ao30 t169.length co30 : Value).ownBlock ∧ some k_ ≠ (.slice Ao82 x181002_18.length co82 : Value).ownBlock)) (by (with_reducible repeat (first | apply Kd.R_alloc | apply Kd.R_drewN | apply Kd.R_drew)); exact HO_8.out) hg hat)).2.2) KL87.out))
                                    have n8_ := Aside0.mk (ho)
                                    clear HO_8
                                    clear HO_174002
                                    clear HO_181002
                                    clear BK155
                                    clear BK173
                                    clear BK180
                                    clear HB
                                    clear HR197
                                    clear HO193
                                    have HO_8 := n0_
                                    have HO_174002 := n1_
                                    have HO_181002 := n2_
                                    have BK155 := n3_
                                    have BK173 := n4_
                                    have BK180 := n5_
                                    have HB := n6_
                                    have HR197 := n7_
                                    have HO200 := n8_
                                    clear n0_ n1_ n2_ n3_ n4_ n5_ n6_ n7_ n8_
                                    clear ho hb hg hat
                                    obtain ⟨Ao92, co92, eo92⟩ := Kd.R_slice HO200.out
                                    (first | subst eo92 | (injection eo92 with f1_ f2_ f3_; have f4_ := f1_.symm; have f5_ := f3_.symm; clear f1_ f2_ f3_; subst f4_; subst f5_))
                                    refine hK.out _ _ ⟨(blk_cell BK173.out 0).trans rfl, (blk_cell BK173.out 1).trans rfl, (blk_cell BK173.out 2).trans rfl, (blk_cell BK155.out 0).trans rfl, (blk_cell BK155.out 1).trans rfl, (blk_cell BK155.out 2).trans rfl⟩ (fun hHeld => ?_)
                                    clear hK K
                                    refine norm_ (a' := ?_) ?_ ?_
                                    rotate_left
                                    · show Act.put _ (some 100) _ = _
                                      simp only [Act.put, List.setIfInBounds_toArray, List.set_cons_zero, List.set_cons_succ, i64_w, i32_w]
                                      rfl
                                    refine one_ (i := 12) (N := some 101) #[true, true, true, true, true, true, true, true, true, true, true, true, true, false, false, false, false, false, false, false, false, false, false, false] rfl rfl (one_of HT_.out (by kernel_rfl)) (by decide) (fun K hK => ?_)
                                    refine goes_ Try.func12 (by kernel_rfl) rfl #[.slice Ao30 t169.length co30, .slice Ao92 y198.length co92] (by rfl) rfl rfl (by (try simp only [List.map_toArray, List.map_cons, List.map_nil]); first | done | rfl | (simp only [List.length_drop, List.length_take]; rfl)) ?_
                                    with_reducible refine (exergueref01_Same.calls kj18 _ _ t169 _ _ y198 true _ ?side1 ?side2 ?side3 ?side4 A75.out).mono ?_
                                    (case side1 => repeat (first | exact (Kd.R_reads' HO_174002.out).2.2 | (with_reducible refine Kd.C_alloc ?_ _) | (with_reducible refine Kd.C_drewN ?_ _) | (with_reducible refine Kd.C_drew ?_)))
                                    (case side2 => exact (Kd.R_reads' HO_174002.out).2.1)
                                    (case side3 => repeat (first | exact (Kd.R_reads' HO200.out).2.2 | (with_reducible refine Kd.C_alloc ?_ _) | (with_reducible refine Kd.C_drewN ?_ _) | (with_reducible refine Kd.C_drew ?_)))
                                    (case side4 => exact (Kd.R_reads' HO200.out).2.1)
                                    rintro e w' ⟨rfl, ⟨nd, rfl⟩⟩
                                    refine ⟨_, rfl, ?_⟩
                                    refine hK.out _ _ ⟨(blk_cell BK173.out 0).trans rfl, (blk_cell BK173.out 1).trans rfl, (blk_cell BK173.out 2).trans rfl, (blk_cell BK155.out 0).trans rfl, (blk_cell BK155.out 1).trans rfl, (blk_cell BK155.out 2).trans rfl⟩ (fun hHeld => ?_)
                                    clear hK K
                                    refine norm_ (a' := ?_) ?_ ?_
                                    rotate_left
                                    · show Act.put _ (some 101) _ = _
                                      simp only [Act.put, List.setIfInBounds_toArray, List.set_cons_zero, List.set_cons_succ, i64_w, i32_w]
                                      rfl
                                    refine pure_ (i := 13) (N := some 102) (v := ?_) (a' := ?_) #[true, true, true, true, true, true, true, true, true, true, true, true, true, true, false, false, false, false, false, false, false, false, false, false] rfl rfl (any_of HT_.out (by kernel_rfl)) (fun _ _ _ h => h) (Or.inl ⟨by rfl, ?_⟩) ?_ ?_
                                    rotate_left
                                    · intro w'
                                      go_simp
                                      with_reducible rfl
                                    rotate_left
                                    · simp only [Act.put, List.setIfInBounds_toArray, List.set_cons_zero, List.set_cons_succ, i64_w, i32_w]
                                      rfl
                                    refine pure_ (i := 14) (N := some 103) (v := ?_) (a' := ?_) #[true, true, true, true, true, true, true, true, true, true, true, true, true, true, true, false, false, false, false, false, false, false, false, false] rfl rfl (any_of HT_.out (by kernel_rfl)) (fun _ _ _ h => h) (Or.inl ⟨by rfl, ?_⟩) ?_ ?_
                                    rotate_left
                                    · intro w'
                                      go_simp
                                      with_reducible rfl
                                    rotate_left
                                    · simp only [Act.put, List.setIfInBounds_toArray, List.set_cons_zero, List.set_cons_succ, i64_w, i32_w]
                                      rfl
                                    refine pure_ (i := 15) (N := some 104) (v := ?_) (a' := ?_) #[true, true, true, true, true, true, true, true, true, true, true, true, true, true, true, true, false, false, false, false, false, false, false, false] rfl rfl (any_of HT_.out (by kernel_rfl)) (fun _ _ _ h => h) (Or.inl ⟨by rfl, ?_⟩) ?_ ?_
                                    rotate_left
                                    · intro w'
                                      go_simp
                                      with_reducible rfl
                                    rotate_left
                                    · simp only [Act.put, List.setIfInBounds_toArray, List.set_cons_zero, List.set_cons_succ, i64_w, i32_w]
                                      rfl
                                    refine pure_ (i := 16) (N := some 105) (v := ?_) (a' := ?_) #[true, true, true, true, true, true, true, true, true, true, true, true, true, true, true, true, true, false, false, false, false, false, false, false] rfl rfl (any_of HT_.out (by kernel_rfl)) (fun _ _ _ h => h) (Or.inl ⟨by rfl, ?_⟩) ?_ ?_
                                    rotate_left
                                    · intro w'
                                      go_simp
                                      with_reducible rfl
                                    rotate_left
                                    · simp only [Act.put, List.setIfInBounds_toArray, List.set_cons_zero, List.set_cons_succ, i64_w, i32_w]
                                      rfl
                                    refine pure_ (i := 17) (N := some 106) (v := ?_) (a' := ?_) #[true, true, true, true, true, true, true, true, true, true, true, true, true, true, true, true, true, true, false, false, false, false, false, false] rfl rfl (any_of HT_.out (by kernel_rfl)) (fun _ _ _ h => h) (Or.inl ⟨by rfl, ?_⟩) ?_ ?_
                                    rotate_left
                                    · intro w'
                                      go_simp
                                      with_reducible rfl
                                    rotate_left
                                    · simp only [Act.put, List.setIfInBounds_toArray, List.set_cons_zero, List.set_cons_succ, i64_w, i32_w]
                                      rfl
                                    refine pure_ (i := 18) (N := some 107) (v := ?_) (a' := ?_) #[true, true, true, true, true, true, true, true, true, true, true, true, true, true, true, true, true, true, true, false, false, false, false, false] rfl rfl (any_of HT_.out (by kernel_rfl)) (fun _ _ _ h => h) (Or.inl ⟨by rfl, ?_⟩) ?_ ?_
                                    rotate_left
                                    · intro w'
                                      go_simp
                                      with_reducible rfl
                                    rotate_left
                                    · simp only [Act.put, List.setIfInBounds_toArray, List.set_cons_zero, List.set_cons_succ, i64_w, i32_w]
                                      rfl
                                    refine pure_ (i := 19) (N := some 108) (v := ?_) (a' := ?_) #[true, true, true, true, true, true, true, true, true, true, true, true, true, true, true, true, true, true, true, true, false, false, false, false] rfl rfl (any_of HT_.out (by kernel_rfl)) (fun _ _ _ h => h) (Or.inl ⟨by rfl, ?_⟩) ?_ ?_
                                    rotate_left
                                    · intro w'
                                      go_simp
                                      with_reducible rfl
                                    rotate_left
                                    · simp only [Act.put, List.setIfInBounds_toArray, List.set_cons_zero, List.set_cons_succ, i64_w, i32_w]
                                      rfl
                                    refine pure_ (i := 20) (N := some 109) (v := ?_) (a' := ?_) #[true, true, true, true, true, true, true, true, true, true, true, true, true, true, true, true, true, true, true, true, true, false, false, false] rfl rfl (any_of HT_.out (by kernel_rfl)) (fun _ _ _ h => h) (Or.inl ⟨by rfl, ?_⟩) ?_ ?_
                                    rotate_left
                                    · intro w'
                                      go_simp
                                      with_reducible rfl
                                    rotate_left
                                    · simp only [Act.put, List.setIfInBounds_toArray, List.set_cons_zero, List.set_cons_succ, i64_w, i32_w]
                                      rfl
                                    refine pure_ (i := 21) (N := some 110) (v := ?_) (a' := ?_) #[true, true, true, true, true, true, true, true, true, true, true, true, true, true, true, true, true, true, true, true, true, true, false, false] rfl rfl (any_of HT_.out (by kernel_rfl)) (fun _ _ _ h => h) (Or.inl ⟨by rfl, ?_⟩) ?_ ?_
                                    rotate_left
                                    · intro w'
                                      go_simp
                                      with_reducible rfl
                                    rotate_left
                                    · simp only [Act.put, List.setIfInBounds_toArray, List.set_cons_zero, List.set_cons_succ, i64_w, i32_w]
                                      rfl
                                    refine pure_ (i := 22) (N := some 111) (v := ?_) (a' := ?_) #[true, true, true, true, true, true, true, true, true, true, true, true, true, true, true, true, true, true, true, true, true, true, true, false] rfl rfl (any_of HT_.out (by kernel_rfl)) (fun _ _ _ h => h) (Or.inl ⟨by rfl, ?_⟩) ?_ ?_
                                    rotate_left
                                    · intro w'
                                      go_simp
                                      with_reducible rfl
                                    rotate_left
                                    · simp only [Act.put, List.setIfInBounds_toArray, List.set_cons_zero, List.set_cons_succ, i64_w, i32_w]
                                      rfl
                                    refine pure_ (i := 23) (N := some 6) (v := ?_) (a' := ?_) #[true, true, true, true, true, true, true, true, true, true, true, true, true, true, true, true, true, true, true, true, true, true, true, true] rfl rfl (any_of HT_.out (by kernel_rfl)) (fun _ _ _ h => h) (Or.inl ⟨by rfl, ?_⟩) ?_ ?_
                                    rotate_left
                                    · intro w'
                                      go_simp
                                      with_reducible rfl
                                    rotate_left
                                    · simp only [Act.put, List.setIfInBounds_toArray, List.set_cons_zero, List.set_cons_succ, i64_w, i32_w]
                                      rfl
                                    refine done_ (done_of HT_.out (by kernel_rfl)) ?_
                                    try go_wp2
                                    go_ret
                                    exact ⟨by first | rfl | (simp [errW_none, errW_some] <;> rfl) | (simp only [← hji71]; first | rfl | (simp [errW_none, errW_some] <;> rfl)) | (simp [*, errW_none, errW_some] <;> rfl), by repeat (first | (with_reducible first | exact HB.out | apply below_alloc | apply pw_below_drewN | apply below_drew1 | refine below_set ?_ GE155.out | refine below_set ?_ GE173.out | refine below_set ?_ GE180.out) | exact HB.out)⟩
                                  · replace c76 := Bool.eq_false_iff.mpr c76
                                    subst c76
                                    have H1 : (some false) = some r := by rw [if_neg (show ¬ (false = true) by decide)] at H; exact H
                                    clear H
                                    have H := H1
                                    clear H1
                                    obtain rfl := Option.some.inj H
                                    have hnb93 := NB173_155.out
                                    have hnc93 := NB155_173.out
                                    have hnb94 := NB173_180.out
                                    have hnc94 := NB180_173.out
                                    have hcz95_0 : wc.cell? ⟨gb173, 0, none⟩ = some (.int .i64 t167) := (blk_cell BK173.out 0).trans rfl
                                    have hcz95_1 : wc.cell? ⟨gb173, 1, none⟩ = some (.int .i64 t168) := (blk_cell BK173.out 1).trans rfl
                                    have hcz95_2 : wc.cell? ⟨gb173, 2, none⟩ = some (.slice Ao30 t169.length co30) := (blk_cell BK173.out 2).trans rfl
                                    have hfz95_0 := blk_frozen BK173.out 0
                                    have hfz95_1 := blk_frozen BK173.out 1
                                    have hfz95_2 := blk_frozen BK173.out 2
                                    have hnb96 := NB180_155.out
                                    have hnc96 := NB155_180.out
                                    have hcz97_0 : wc.cell? ⟨gb180, 0, none⟩ = some (.int .i64 x181000_18) := (blk_cell BK180.out 0).trans rfl
                                    have hcz97_1 : wc.cell? ⟨gb180, 1, none⟩ = some (.int .i64 x181001_18) := (blk_cell BK180.out 1).trans rfl
                                    have hcz97_2 : wc.cell? ⟨gb180, 2, none⟩ = some (u181002) := (blk_cell BK180.out 2).trans rfl
                                    have hfz97_0 := blk_frozen BK180.out 0
                                    have hfz97_1 := blk_frozen BK180.out 1
                                    have hfz97_2 := blk_frozen BK180.out 2
                                    obtain ⟨Ao98, co98, eo98⟩ := Kd.R_slice HO_181002.out
                                    subst eo98
                                    try go_wp2_with (first | (go_at_call 11; (with_reducible refine (exergueref04_Same.calls kj18 t167 t168 _ _ t169 x181000_18 x181001_18 _ _ x181002_18 true _ ?side1 ?side2 ?side3 ?side4 A47.out).mono ?_); (case side1 => repeat (first | exact (Kd.R_reads' HO_174002.out).2.2 | (with_reducible refine Kd.C_alloc ?_ _) | (with_reducible refine Kd.C_drewN ?_ _) | (with_reducible refine Kd.C_drew ?_))); (case side2 => exact (Kd.R_reads' HO_174002.out).2.1); (case side3 => repeat (first | exact (Kd.R_reads' HO_181002.out).2.2 | (with_reducible refine Kd.C_alloc ?_ _) | (with_reducible refine Kd.C_drewN ?_ _) | (with_reducible refine Kd.C_drew ?_))); (case side4 => exact (Kd.R_reads' HO_181002.out).2.1); rintro e w99 ⟨rfl, hb⟩; have n0_ := Aside0.mk (Kd.R_below (by (with_reducible repeat (first | apply Kd.R_alloc | apply Kd.R_drewN | apply Kd.R_drew)); exact HO_8.out) hb); have n1_ := Aside0.mk (Kd.R_below (by (with_reducible repeat (first | apply Kd.R_alloc | apply Kd.R_drewN | apply Kd.R_drew)); exact HO_174002.out) hb); have n2_ := Aside0.mk (Kd.R_below (by (with_reducible repeat (first | apply Kd.R_alloc | apply Kd.R_drewN | apply Kd.R_drew)); exact HO_181002.out) hb); have n3_ := Aside0.mk (blk_below (g := gb155) (o := .cells #[.int .i64 a0_0, .int .i64 a0_1, .slice A0_2 l0_2.length c0_2] 24 (0, 0)) (by (with_reducible repeat (first | refine blk_drewN ?_ _ | refine blk_drew ?_ | refine blk_alloc ?_ _)); exact BK155.out) hb); have n4_ := Aside0.mk (blk_below (g := gb173) (o := .cells #[.int .i64 t167, .int .i64 t168, .slice Ao30 t169.length co30] 24 (0, 0)) (by (with_reducible repeat (first | refine blk_drewN ?_ _ | refine blk_drew ?_ | refine blk_alloc ?_ _)); exact BK173.out) hb); have n5_ := Aside0.mk (blk_below (g := gb180) (o := .cells #[.int .i64 x181000_18, .int .i64 x181001_18, .slice Ao98 x181002_18.length co98] 24 (0, 0)) (by (with_reducible repeat (first | refine blk_drewN ?_ _ | refine blk_drew ?_ | refine blk_alloc ?_ _)); exact BK180.out) hb); have n6_ := Aside0.mk (below_step (by repeat (first | (with_reducible first | exact HB.out | apply below_alloc | apply pw_below_drewN | apply below_drew1 | refine below_set ?_ GE155.out | refine below_set ?_ GE173.out | refine below_set ?_ GE180.out) | exact HB.out)) hb); clear HO_8; clear HO_174002; clear HO_181002; clear BK155; clear BK173; clear BK180; clear HB; have HO_8 := n0_; have HO_174002 := n1_; have HO_181002 := n2_; have BK155 := n3_; have BK173 := n4_; have BK180 := n5_; have HB := n6_; clear n0_ n1_ n2_ n3_ n4_ n5_ n6_; (try clear hb); (try clear hb2); (try clear hk); (try clear hi); have hcz100_0 : w99.cell? ⟨gb173, 0, none⟩ = some (.int .i64 t167) := (blk_cell BK173.out 0).trans rfl; have hcz100_1 : w99.cell? ⟨gb173, 1, none⟩ = some (.int .i64 t168) := (blk_cell BK173.out 1).trans rfl; have hcz100_2 : w99.cell? ⟨gb173, 2, none⟩ = some (.slice Ao30 t169.length co30) := (blk_cell BK173.out 2).trans rfl; have hfz100_0 := blk_frozen BK173.out 0; have hfz100_1 := blk_frozen BK173.out 1; have hfz100_2 := blk_frozen BK173.out 2; have hcz101_0 : w99.cell? ⟨gb155, 0, none⟩ = some (.int .i64 a0_0) := (blk_cell BK155.out 0).trans rfl; have hcz101_1 : w99.cell? ⟨gb155, 1, none⟩ = some (.int .i64 a0_1) := (blk_cell BK155.out 1).trans rfl; have hcz101_2 : w99.cell? ⟨gb155, 2, none⟩ = some (.slice A0_2 l0_2.length c0_2) := (blk_cell BK155.out 2).trans rfl; have hfz101_0 := blk_frozen BK155.out 0; have hfz101_1 := blk_frozen BK155.out 1; have hfz101_2 := blk_frozen BK155.out 2))
                                    have n0_ := Aside0.mk (Kd.R_drew HO_8.out)
                                    have n1_ := Aside0.mk (Kd.R_drew HO_174002.out)
                                    have n2_ := Aside0.mk (Kd.R_drew HO_181002.out)
                                    have n3_ := Aside0.mk (blk_drew BK155.out)
                                    have n4_ := Aside0.mk (blk_drew BK173.out)
                                    have n5_ := Aside0.mk (blk_drew BK180.out)
                                    have n6_ := Aside0.mk (below_drew1 HB.out)
                                    clear HO_8
                                    clear HO_174002
                                    clear HO_181002
                                    clear BK155
                                    clear BK173
                                    clear BK180
                                    clear HB
                                    have HO_8 := n0_
                                    have HO_174002 := n1_
                                    have HO_181002 := n2_
                                    have BK155 := n3_
                                    have BK173 := n4_
                                    have BK180 := n5_
                                    have HB := n6_
                                    clear n0_ n1_ n2_ n3_ n4_ n5_ n6_
                                    have q103 : ((ji71) : Int) ≤ ((y164.length : Int) : Int) := of_decide_eq_true (by first | (with_reducible assumption) | assumption)
                                    obtain ⟨i0103, hi0103, _, hsz103, _⟩ := info_parts info21
                                    have hroom103 : y164.length ≤ co25 := (Kd.R_reads' HO_8.out).2.1
                                    have hC103 : Kd.C (Kd.int .i32) _ Ao25 y164.length y164 := (Kd.R_reads' HO_8.out).2.2
                                    have hcut103 := cut_to (P := Try.prog) 22 21 .i64 Try.underlying22 hi0103 Ao25 y164.length co25 (ji71) (of_decide_eq_true (by first | (with_reducible assumption) | assumption)) q103 hroom103
                                    have hr103 := Kd.C_take (m := ((ji71) : Int).toNat) hC103 (by omega)
                                    have hy103 : y194.length = ((ji71) : Int).toNat := (by rw [Ny194.out, List.length_take]; omega)
                                    rw [← Ny194.out] at hr103
                                    rw [← hy103] at hcut103
                                    have HR197 := Aside0.mk hr103
                                    have HC197 := Aside0.mk (show y194.length ≤ co25 from by omega)
                                    clear hr103 hC103 hroom103 hi0103 hsz103
                                    have KY103 := Aside0.mk hy103
                                    clear hy103
                                    have KL103 := Aside0.mk (show ((ji71) : Int).toNat ≤ y164.length from by omega)
                                    replace q103 := eq_true q103
                                    refine start_ (n := 24) (S := fun w' => w'.cell? ⟨gb173, 0, none⟩ = some (.int .i64 t167) ∧ w'.cell? ⟨gb173, 1, none⟩ = some (.int .i64 t168) ∧ w'.cell? ⟨gb173, 2, none⟩ = some (.slice Ao30 t169.length co30) ∧ w'.cell? ⟨gb155, 0, none⟩ = some (.int .i64 a0_0) ∧ w'.cell? ⟨gb155, 1, none⟩ = some (.int .i64 a0_1) ∧ w'.cell? ⟨gb155, 2, none⟩ = some (.slice A0_2 l0_2.length c0_2)) (ds := []) #[false, false, false, false, false, false, false, false, false, false, false, false, false, false, false, false, false, false, false, false, false, false, false, false] (by kernel_rfl) rfl rfl ⟨(blk_cell BK173.out 0).trans rfl, (blk_cell BK173.out 1).trans rfl, (blk_cell BK173.out 2).trans rfl, (blk_cell BK155.out 0).trans rfl, (blk_cell BK155.out 1).trans rfl, (blk_cell BK155.out 2).trans rfl⟩ (fun hHeld => ?_); refine with_tabW exerguelaw04_TankParts.tab12 exerguelaw04_TankParts.bits12 (fun HT_ HW_ => ?_)
                                    generalize w99.drew = w102 at HO_8 HO_174002 HO_181002 BK155 BK173 BK180 HB HR197 hHeld ⊢
                                    refine pure_ (i := 0) (N := some 89) (v := ?_) (a' := ?_) #[true, false, false, false, false, false, false, false, false, false, false, false, false, false, false, false, false, false, false, false, false, false, false, false] rfl rfl (any_of HT_.out (by kernel_rfl)) (fun _ _ _ h => h) (Or.inl ⟨by rfl, ?_⟩) ?_ ?_
                                    rotate_left
                                    · intro w'
                                      go_simp
                                      with_reducible rfl
                                    rotate_left
                                    · simp only [Act.put, List.setIfInBounds_toArray, List.set_cons_zero, List.set_cons_succ, i64_w, i32_w]
                                      rfl
                                    refine pure_ (i := 1) (N := some 90) (v := ?_) (a' := ?_) #[true, true, false, false, false, false, false, false, false, false, false, false, false, false, false, false, false, false, false, false, false, false, false, false] rfl rfl (any_of HT_.out (by kernel_rfl)) (fun _ _ _ h => h) (Or.inl ⟨by rfl, ?_⟩) ?_ ?_
                                    rotate_left
                                    · intro w'
                                      go_simp
                                      with_reducible rfl
                                    rotate_left
                                    · simp only [Act.put, List.setIfInBounds_toArray, List.set_cons_zero, List.set_cons_succ, i64_w, i32_w]
                                      rfl
                                    refine pure_ (i := 2) (N := some 91) (v := ?_) (a' := ?_) #[true, true, true, false, false, false, false, false, false, false, false, false, false, false, false, false, false, false, false, false, false, false, false, false] rfl rfl (any_of HT_.out (by kernel_rfl)) (fun _ _ _ h => h) (Or.inl ⟨by rfl, ?_⟩) ?_ ?_
                                    rotate_left
                                    · intro w'
                                      go_simp
                                      with_reducible rfl
                                    rotate_left
                                    · simp only [Act.put, List.setIfInBounds_toArray, List.set_cons_zero, List.set_cons_succ, i64_w, i32_w]
                                      rfl
                                    refine pure_ (i := 5) (N := some 94) (v := ?_) (a' := ?_) #[true, true, true, false, false, true, false, false, false, false, false, false, false, false, false, false, false, false, false, false, false, false, false, false] rfl rfl (any_of HT_.out (by kernel_rfl)) (fun _ _ _ h => h) (Or.inl ⟨by rfl, ?_⟩) ?_ ?_
                                    rotate_left
                                    · intro w'
                                      go_simp
                                      with_reducible rfl
                                    rotate_left
                                    · simp only [Act.put, List.setIfInBounds_toArray, List.set_cons_zero, List.set_cons_succ, i64_w, i32_w]
                                      rfl
                                    refine pure_ (i := 8) (N := some 97) (v := ?_) (a' := ?_) #[true, true, true, false, false, true, false, false, true, false, false, false, false, false, false, false, false, false, false, false, false, false, false, false] rfl rfl (any_of HT_.out (by kernel_rfl)) (fun _ _ _ h => h) (Or.inl ⟨by rfl, ?_⟩) ?_ ?_
                                    rotate_left
                                    · intro w'
                                      go_simp
                                      with_reducible rfl
                                    rotate_left
                                    · simp only [Act.put, List.setIfInBounds_toArray, List.set_cons_zero, List.set_cons_succ, i64_w, i32_w]
                                      rfl
                                    refine pure_ (i := 9) (N := some 98) (v := ?_) (a' := ?_) #[true, true, true, false, false, true, false, false, true, true, false, false, false, false, false, false, false, false, false, false, false, false, false, false] rfl rfl (any_of HT_.out (by kernel_rfl)) (fun _ _ _ h => h) (Or.inl ⟨by rfl, ?_⟩) ?_ ?_
                                    rotate_left
                                    · intro w'
                                      go_simp
                                      with_reducible rfl
                                    rotate_left
                                    · simp only [Act.put, List.setIfInBounds_toArray, List.set_cons_zero, List.set_cons_succ, i64_w, i32_w]
                                      rfl
                                    refine pure_ (i := 10) (N := some 99) (v := ?_) (a' := ?_) #[true, true, true, false, false, true, false, false, true, true, true, false, false, false, false, false, false, false, false, false, false, false, false, false] rfl rfl (any_of HT_.out (by kernel_rfl)) (fun _ _ _ h => h) (Or.inl ⟨by rfl, ?_⟩) ?_ ?_
                                    rotate_left
                                    · intro w'
                                      go_simp
                                      with_reducible rfl
                                    rotate_left
                                    · simp only [Act.put, List.setIfInBounds_toArray, List.set_cons_zero, List.set_cons_succ, i64_w, i32_w]
                                      rfl
                                    refine take_ (i := 3) (N := some 92) (v := ?_) (a' := ?_) #[true, true, true, true, false, true, false, false, true, true, true, false, false, false, false, false, false, false, false, false, false, false, false, false] rfl rfl (take_ofW HT_.out HW_.out (by kernel_rfl)) (fun _ _ _ h => h) (Or.inl ⟨by rfl, ?_⟩) hHeld ?_ ?_
                                    rotate_left
                                    · rintro w' ⟨s0, s1, s2, s3, s4, s5⟩
                                      go_simp
                                      with_reducible rfl
                                    rotate_left
                                    · simp only [Act.put, List.setIfInBounds_toArray, List.set_cons_zero, List.set_cons_succ, i64_w, i32_w]
                                      rfl
                                    refine take_ (i := 6) (N := some 95) (v := ?_) (a' := ?_) #[true, true, true, true, false, true, true, false, true, true, true, false, false, false, false, false, false, false, false, false, false, false, false, false] rfl rfl (take_ofW HT_.out HW_.out (by kernel_rfl)) (fun _ _ _ h => h) (Or.inl ⟨by rfl, ?_⟩) hHeld ?_ ?_
                                    rotate_left
                                    · rintro w' ⟨s0, s1, s2, s3, s4, s5⟩
                                      go_simp
                                      with_reducible rfl
                                    rotate_left
                                    · simp only [Act.put, List.setIfInBounds_toArray, List.set_cons_zero, List.set_cons_succ, i64_w, i32_w]
                                      rfl
                                    refine one_ (i := 4) (N := some 93) #[true, true, true, true, true, true, true, false, true, true, true, false, false, false, false, false, false, false, false, false, false, false, false, false] rfl rfl (one_of HT_.out (by kernel_rfl)) (by decide) (fun K hK => ?_)
                                    refine Kd.R_lit_step (Kd.int .i32) _ 21 ?hg (N := 93) ?hd (xs := ([] : List Int)) (inner := []) (ok := fun _ => True) (okp := fun _ => True) ?hr ?hp (fun _ hk => hk) trivial (Below.refl _ _) (Nat.le_refl _) (by simp) ?_; (case hd => rfl); (case hg => rfl); (case hr => first | (go_simp; done) | (go_simp; rfl)); (case hp => exact (Reps.none _ _))
                                    intro v189 w104 ho105 hb hg_ hnew_
                                    clear hg_ hnew_
                                    (first | rw [← Ny188.out] at ho105 | (simp only [Int.reduceToNat] at ho105; rw [← Ny188.out] at ho105))
                                    have n0_ := Aside0.mk (Kd.R_elder' (by (with_reducible repeat (first | apply Kd.R_alloc | apply Kd.R_drewN | apply Kd.R_drew)); exact HO_8.out) (Kd.R_base ho105) hb)
                                    have n1_ := Aside0.mk (Kd.R_elder' (by (with_reducible repeat (first | apply Kd.R_alloc | apply Kd.R_drewN | apply Kd.R_drew)); exact HO_174002.out) (Kd.R_base ho105) hb)
                                    have n2_ := Aside0.mk (Kd.R_elder' (by (with_reducible repeat (first | apply Kd.R_alloc | apply Kd.R_drewN | apply Kd.R_drew)); exact HO_181002.out) (Kd.R_base ho105) hb)
                                    have n3_ := Aside0.mk (Kd.R_lower (Kd.R_new' (Kd.R_new' (Kd.R_new' ho105 (Kd.R_lt (by (with_reducible repeat (first | apply Kd.R_alloc | apply Kd.R_drewN | apply Kd.R_drew)); exact HO_8.out))) (Kd.R_lt (by (with_reducible repeat (first | apply Kd.R_alloc | apply Kd.R_drewN | apply Kd.R_drew)); exact HO_174002.out))) (Kd.R_lt (by (with_reducible repeat (first | apply Kd.R_alloc | apply Kd.R_drewN | apply Kd.R_drew)); exact HO_181002.out))) (below_size (by repeat (first | (with_reducible first | exact HB.out | apply below_alloc | apply pw_below_drewN | apply below_drew1 | refine below_set ?_ GE155.out | refine below_set ?_ GE173.out | refine below_set ?_ GE180.out) | exact HB.out))))
                                    have n4_ := Aside0.mk (blk_below (g := gb155) (o := .cells #[.int .i64 a0_0, .int .i64 a0_1, .slice A0_2 l0_2.length c0_2] 24 (0, 0)) (by (with_reducible repeat (first | refine blk_drewN ?_ _ | refine blk_drew ?_ | refine blk_alloc ?_ _)); exact BK155.out) hb)
                                    have n5_ := Aside0.mk (blk_below (g := gb173) (o := .cells #[.int .i64 t167, .int .i64 t168, .slice Ao30 t169.length co30] 24 (0, 0)) (by (with_reducible repeat (first | refine blk_drewN ?_ _ | refine blk_drew ?_ | refine blk_alloc ?_ _)); exact BK173.out) hb)
                                    have n6_ := Aside0.mk (blk_below (g := gb180) (o := .cells #[.int .i64 x181000_18, .int .i64 x181001_18, .slice Ao98 x181002_18.length co98] 24 (0, 0)) (by (with_reducible repeat (first | refine blk_drewN ?_ _ | refine blk_drew ?_ | refine blk_alloc ?_ _)); exact BK180.out) hb)
                                    have n7_ := Aside0.mk (Kd.C_below (by repeat (first | (with_reducible exact HR197.out) | (with_reducible refine Kd.C_alloc ?_ _) | (with_reducible refine Kd.C_drewN ?_ _) | (with_reducible refine Kd.C_drew ?_) | exact HR197.out)) hb)
                                    have n8_ := Aside0.mk (below_step (by repeat (first | (with_reducible first | exact HB.out | apply below_alloc | apply pw_below_drewN | apply below_drew1 | refine below_set ?_ GE155.out | refine below_set ?_ GE173.out | refine below_set ?_ GE180.out) | exact HB.out)) hb)
                                    clear HO_8
                                    clear HO_174002
                                    clear HO_181002
                                    clear BK155
                                    clear BK173
                                    clear BK180
                                    clear HR197
                                    clear HB
                                    have HO_8 := n0_
                                    have HO_174002 := n1_
                                    have HO_181002 := n2_
                                    have HO190 := n3_
                                    have BK155 := n4_
                                    have BK173 := n5_
                                    have BK180 := n6_
                                    have HR197 := n7_
                                    have HB := n8_
                                    clear n0_ n1_ n2_ n3_ n4_ n5_ n6_ n7_ n8_
                                    clear hb ho105
                                    refine hK.out _ _ ⟨(blk_cell BK173.out 0).trans rfl, (blk_cell BK173.out 1).trans rfl, (blk_cell BK173.out 2).trans rfl, (blk_cell BK155.out 0).trans rfl, (blk_cell BK155.out 1).trans rfl, (blk_cell BK155.out 2).trans rfl⟩ (fun hHeld => ?_)
                                    clear hK K
                                    refine norm_ (a' := ?_) ?_ ?_
                                    rotate_left
                                    · show Act.put _ (some 93) _ = _
                                      simp only [Act.put, List.setIfInBounds_toArray, List.set_cons_zero, List.set_cons_succ, i64_w, i32_w]
                                      rfl
                                    refine one_ (i := 7) (N := some 96) #[true, true, true, true, true, true, true, true, true, true, true, false, false, false, false, false, false, false, false, false, false, false, false, false] rfl rfl (one_of HT_.out (by kernel_rfl)) (by decide) (fun K hK => ?_)
                                    refine Kd.R_append_rows_step (Kd.int .i32) (w0 := w) w.heap.size (by rfl) (.tmp 93) (.tmp 95) 22 21 (.int .i32 0) 4 rfl Try.underlying22 info21 rfl (by decide) (by omega) v189 y188 l0_2 _ _ _ (fun k_ => some k_ ≠ (.slice Ao25 y164.length co25 : Value).ownBlock ∧ some k_ ≠ (.slice Ao30 t169.length co30 : Value).ownBlock ∧ some k_ ≠ (.slice Ao98 x181002_18.length co98 : Value).ownBlock) (fun _ => False) rfl rfl ?aO ?aR (fun _ _ h => h) (fun _ h => h.elim) ?aF ?aB ?aS ?aL ?_
                                    (case aR => repeat (first | exact (Kd.C_below HR0_2.out HB.out) | (with_reducible refine Kd.C_alloc ?_ _) | (with_reducible refine Kd.C_drewN ?_ _) | (with_reducible refine Kd.C_drew ?_)))
                                    (case aB => exact (by repeat (first | (with_reducible first | exact HB.out | apply below_alloc | apply pw_below_drewN | apply below_drew1 | refine below_set ?_ GE155.out | refine below_set ?_ GE173.out | refine below_set ?_ GE180.out) | exact HB.out)))
                                    (case aF => exact (fun k_ hk => ⟨Kd.fresh' (Kd.R_lt (by (with_reducible repeat (first | apply Kd.R_alloc | apply Kd.R_drewN | apply Kd.R_drew)); exact HO_8.out)) k_ hk, Kd.fresh' (Kd.R_lt (by (with_reducible repeat (first | apply Kd.R_alloc | apply Kd.R_drewN | apply Kd.R_drew)); exact HO_174002.out)) k_ hk, Kd.fresh' (Kd.R_lt (by (with_reducible repeat (first | apply Kd.R_alloc | apply Kd.R_drewN | apply Kd.R_drew)); exact HO_181002.out)) k_ hk⟩))
                                    (case aO => exact (by (with_reducible repeat (first | apply Kd.R_alloc | apply Kd.R_drewN | apply Kd.R_drew)); exact Kd.R_mono HO190.out (fun _ hk => ⟨hk.1.1.2, ⟨hk.1.2, hk.2⟩⟩)))
                                    (case aS => exact (below_size (by repeat (first | (with_reducible first | exact HB.out | apply below_alloc | apply pw_below_drewN | apply below_drew1 | refine below_set ?_ GE155.out | refine below_set ?_ GE173.out | refine below_set ?_ GE180.out) | exact HB.out))))
                                    (case aL => have := LMc70.out; omega)
                                    intro v192 w106 ho hb hg hat
                                    rw [← Ny191.out] at ho
                                    have n0_ := Aside0.mk (Kd.R_after (ok := (fun k_ => some k_ ≠ (.slice Ao30 t169.length co30 : Value).ownBlock ∧ some k_ ≠ (.slice Ao98 x181002_18.length co98 : Value).ownBlock)) (by (with_reducible repeat (first | apply Kd.R_alloc | apply Kd.R_drewN | apply Kd.R_drew)); exact HO_8.out) hg hat)
                                    have n1_ := Aside0.mk (Kd.R_after (ok := (fun k_ => some k_ ≠ (.slice Ao25 y164.length co25 : Value).ownBlock ∧ some k_ ≠ (.slice Ao98 x181002_18.length co98 : Value).ownBlock)) (by (with_reducible repeat (first | apply Kd.R_alloc | apply Kd.R_drewN | apply Kd.R_drew)); exact HO_174002.out) hg hat)
                                    have n2_ := Aside0.mk (Kd.R_after (ok := (fun k_ => some k_ ≠ (.slice Ao25 y164.length co25 : Value).ownBlock ∧ some k_ ≠ (.slice Ao30 t169.length co30 : Value).ownBlock)) (by (with_reducible repeat (first | apply Kd.R_alloc | apply Kd.R_drewN | apply Kd.R_drew)); exact HO_181002.out) hg hat)
                                    have n3_ := Aside0.mk (blk_grown (g := gb155) (o := .cells #[.int .i64 a0_0, .int .i64 a0_1, .slice A0_2 l0_2.length c0_2] 24 (0, 0)) (by (with_reducible repeat (first | refine blk_drewN ?_ _ | refine blk_drew ?_ | refine blk_alloc ?_ _)); exact BK155.out) hg (Kd.R_ne HO190.out BK155.out (by decide)))
                                    have n4_ := Aside0.mk (blk_grown (g := gb173) (o := .cells #[.int .i64 t167, .int .i64 t168, .slice Ao30 t169.length co30] 24 (0, 0)) (by (with_reducible repeat (first | refine blk_drewN ?_ _ | refine blk_drew ?_ | refine blk_alloc ?_ _)); exact BK173.out) hg (Kd.R_ne HO190.out BK173.out (by decide)))
                                    have n5_ := Aside0.mk (blk_grown (g := gb180) (o := .cells #[.int .i64 x181000_18, .int .i64 x181001_18, .slice Ao98 x181002_18.length co98] 24 (0, 0)) (by (with_reducible repeat (first | refine blk_drewN ?_ _ | refine blk_drew ?_ | refine blk_alloc ?_ _)); exact BK180.out) hg (Kd.R_ne HO190.out BK180.out (by decide)))
                                    have n6_ := Aside0.mk (hb)
                                    have n7_ := Aside0.mk ((show Kd.C (Kd.int .i32) w106 Ao25 y194.length y194 from by rw [Ny194.out]; exact Kd.C_take (m := ((ji71) : Int).toNat) ((Kd.R_reads' (Kd.R_after (ok := (fun k_ => some k_ ≠ (.slice Ao30 t169.length co30 : Value).ownBlock ∧ some k_ ≠ (.slice Ao98 x181002_18.length co98 : Value).ownBlock)) (by (with_reducible repeat (first | apply Kd.R_alloc | apply Kd.R_drewN | apply Kd.R_drew)); exact HO_8.out) hg hat)).2.2) KL103.out))
                                    have n8_ := Aside0.mk (ho)
                                    clear HO_8
                                    clear HO_174002
                                    clear HO_181002
                                    clear BK155
                                    clear BK173
                                    clear BK180
                                    clear HB
                                    clear HR197
                                    clear HO190
                                    have HO_8 := n0_
                                    have HO_174002 := n1_
                                    have HO_181002 := n2_
                                    have BK155 := n3_
                                    have BK173 := n4_
                                    have BK180 := n5_
                                    have HB := n6_
                                    have HR197 := n7_
                                    have HO193 := n8_
                                    clear n0_ n1_ n2_ n3_ n4_ n5_ n6_ n7_ n8_
                                    clear ho hb hg hat
                                    refine hK.out _ _ ⟨(blk_cell BK173.out 0).trans rfl, (blk_cell BK173.out 1).trans rfl, (blk_cell BK173.out 2).trans rfl, (blk_cell BK155.out 0).trans rfl, (blk_cell BK155.out 1).trans rfl, (blk_cell BK155.out 2).trans rfl⟩ (fun hHeld => ?_)
                                    clear hK K
                                    refine norm_ (a' := ?_) ?_ ?_
                                    rotate_left
                                    · show Act.put _ (some 96) _ = _
                                      simp only [Act.put, List.setIfInBounds_toArray, List.set_cons_zero, List.set_cons_succ, i64_w, i32_w]
                                      rfl
                                    refine one_ (i := 11) (N := some 100) #[true, true, true, true, true, true, true, true, true, true, true, true, false, false, false, false, false, false, false, false, false, false, false, false] rfl rfl (one_of HT_.out (by kernel_rfl)) (by decide) (fun K hK => ?_)
                                    refine Kd.R_append_rows_step (Kd.int .i32) (w0 := w) w.heap.size (by rfl) (.tmp 96) (.tmp 99) 22 21 (.int .i32 0) 4 rfl Try.underlying22 info21 rfl (by decide) (by omega) v192 y191 y194 _ _ _ (fun k_ => some k_ ≠ (.slice Ao25 y164.length co25 : Value).ownBlock ∧ some k_ ≠ (.slice Ao30 t169.length co30 : Value).ownBlock ∧ some k_ ≠ (.slice Ao98 x181002_18.length co98 : Value).ownBlock) (fun _ => False) rfl rfl ?aO ?aR (fun _ _ h => h) (fun _ h => h.elim) ?aF ?aB ?aS ?aL ?_
                                    (case aR => repeat (first | exact (by repeat (first | (with_reducible exact HR197.out) | (with_reducible refine Kd.C_alloc ?_ _) | (with_reducible refine Kd.C_drewN ?_ _) | (with_reducible refine Kd.C_drew ?_) | exact HR197.out)) | (with_reducible refine Kd.C_alloc ?_ _) | (with_reducible refine Kd.C_drewN ?_ _) | (with_reducible refine Kd.C_drew ?_)))
                                    (case aB => exact (by repeat (first | (with_reducible first | exact HB.out | apply below_alloc | apply pw_below_drewN | apply below_drew1 | refine below_set ?_ GE155.out | refine below_set ?_ GE173.out | refine below_set ?_ GE180.out) | exact HB.out)))
                                    (case aF => exact (fun k_ hk => ⟨Kd.fresh' (Kd.R_lt (by (with_reducible repeat (first | apply Kd.R_alloc | apply Kd.R_drewN | apply Kd.R_drew)); exact HO_8.out)) k_ hk, Kd.fresh' (Kd.R_lt (by (with_reducible repeat (first | apply Kd.R_alloc | apply Kd.R_drewN | apply Kd.R_drew)); exact HO_174002.out)) k_ hk, Kd.fresh' (Kd.R_lt (by (with_reducible repeat (first | apply Kd.R_alloc | apply Kd.R_drewN | apply Kd.R_drew)); exact HO_181002.out)) k_ hk⟩))
                                    (case aO => exact (by (with_reducible repeat (first | apply Kd.R_alloc | apply Kd.R_drewN | apply Kd.R_drew)); exact HO193.out))
                                    (case aS => exact (below_size (by repeat (first | (with_reducible first | exact HB.out | apply below_alloc | apply pw_below_drewN | apply below_drew1 | refine below_set ?_ GE155.out | refine below_set ?_ GE173.out | refine below_set ?_ GE180.out) | exact HB.out))))
                                    (case aL => have := LMc74.out; omega)
                                    intro v199 w107 ho hb hg hat
                                    rw [← Ny198.out] at ho
                                    have n0_ := Aside0.mk (Kd.R_after (ok := (fun k_ => some k_ ≠ (.slice Ao30 t169.length co30 : Value).ownBlock ∧ some k_ ≠ (.slice Ao98 x181002_18.length co98 : Value).ownBlock)) (by (with_reducible repeat (first | apply Kd.R_alloc | apply Kd.R_drewN | apply Kd.R_drew)); exact HO_8.out) hg hat)
                                    have n1_ := Aside0.mk (Kd.R_after (ok := (fun k_ => some k_ ≠ (.slice Ao25 y164.length co25 : Value).ownBlock ∧ some k_ ≠ (.slice Ao98 x181002_18.length co98 : Value).ownBlock)) (by (with_reducible repeat (first | apply Kd.R_alloc | apply Kd.R_drewN | apply Kd.R_drew)); exact HO_174002.out) hg hat)
                                    have n2_ := Aside0.mk (Kd.R_after (ok := (fun k_ => some k_ ≠ (.slice Ao25 y164.length co25 : Value).ownBlock ∧ some k_ ≠ (.slice Ao30 t169.length co30 : Value).ownBlock)) (by (with_reducible repeat (first | apply Kd.R_alloc | apply Kd.R_drewN | apply Kd.R_drew)); exact HO_181002.out) hg hat)
                                    have n3_ := Aside0.mk (blk_grown (g := gb155) (o := .cells #[.int .i64 a0_0, .int .i64 a0_1, .slice A0_2 l0_2.length c0_2] 24 (0, 0)) (by (with_reducible repeat (first | refine blk_drewN ?_ _ | refine blk_drew ?_ | refine blk_alloc ?_ _)); exact BK155.out) hg (Kd.R_ne HO193.out BK155.out (by decide)))
                                    have n4_ := Aside0.mk (blk_grown (g := gb173) (o := .cells #[.int .i64 t167, .int .i64 t168, .slice Ao30 t169.length co30] 24 (0, 0)) (by (with_reducible repeat (first | refine blk_drewN ?_ _ | refine blk_drew ?_ | refine blk_alloc ?_ _)); exact BK173.out) hg (Kd.R_ne HO193.out BK173.out (by decide)))
                                    have n5_ := Aside0.mk (blk_grown (g := gb180) (o := .cells #[.int .i64 x181000_18, .int .i64 x181001_18, .slice Ao98 x181002_18.length co98] 24 (0, 0)) (by (with_reducible repeat (first | refine blk_drewN ?_ _ | refine blk_drew ?_ | refine blk_alloc ?_ _)); exact BK180.out) hg (Kd.R_ne HO193.out BK180.out (by decide)))
                                    have n6_ := Aside0.mk (hb)
                                    have n7_ := Aside0.mk ((show Kd.C (Kd.int .i32) w107 Ao25 y194.length y194 from by rw [Ny194.out]; exact Kd.C_take (m := ((ji71) : Int).toNat) ((Kd.R_reads' (Kd.R_after (ok := (fun k_ => some k_ ≠ (.slice Ao30 t169.length co30 : Value).ownBlock ∧ some k_ ≠ (.slice Ao98 x181002_18.length co98 : Value).ownBlock)) (by (with_reducible repeat (first | apply Kd.R_alloc | apply Kd.R_drewN | apply Kd.R_drew)); exact HO_8.out) hg hat)).2.2) KL103.out))
                                    have n8_ := Aside0.mk (ho)
                                    clear HO_8
                                    clear HO_174002
                                    clear HO_181002
                                    clear BK155
                                    clear BK173
                                    clear BK180
                                    clear HB
                                    clear HR197
                                    clear HO193
                                    have HO_8 := n0_
                                    have HO_174002 := n1_
                                    have HO_181002 := n2_
                                    have BK155 := n3_
                                    have BK173 := n4_
                                    have BK180 := n5_
                                    have HB := n6_
                                    have HR197 := n7_
                                    have HO200 := n8_
                                    clear n0_ n1_ n2_ n3_ n4_ n5_ n6_ n7_ n8_
                                    clear ho hb hg hat
                                    obtain ⟨Ao108, co108, eo108⟩ := Kd.R_slice HO200.out
                                    (first | subst eo108 | (injection eo108 with f1_ f2_ f3_; have f4_ := f1_.symm; have f5_ := f3_.symm; clear f1_ f2_ f3_; subst f4_; subst f5_))
                                    refine hK.out _ _ ⟨(blk_cell BK173.out 0).trans rfl, (blk_cell BK173.out 1).trans rfl, (blk_cell BK173.out 2).trans rfl, (blk_cell BK155.out 0).trans rfl, (blk_cell BK155.out 1).trans rfl, (blk_cell BK155.out 2).trans rfl⟩ (fun hHeld => ?_)
                                    clear hK K
                                    refine norm_ (a' := ?_) ?_ ?_
                                    rotate_left
                                    · show Act.put _ (some 100) _ = _
                                      simp only [Act.put, List.setIfInBounds_toArray, List.set_cons_zero, List.set_cons_succ, i64_w, i32_w]
                                      rfl
                                    refine one_ (i := 12) (N := some 101) #[true, true, true, true, true, true, true, true, true, true, true, true, true, false, false, false, false, false, false, false, false, false, false, false] rfl rfl (one_of HT_.out (by kernel_rfl)) (by decide) (fun K hK => ?_)
                                    refine goes_ Try.func12 (by kernel_rfl) rfl #[.slice Ao30 t169.length co30, .slice Ao108 y198.length co108] (by rfl) rfl rfl (by (try simp only [List.map_toArray, List.map_cons, List.map_nil]); first | done | rfl | (simp only [List.length_drop, List.length_take]; rfl)) ?_
                                    with_reducible refine (exergueref01_Same.calls kj18 _ _ t169 _ _ y198 false _ ?side1 ?side2 ?side3 ?side4 A75.out).mono ?_
                                    (case side1 => repeat (first | exact (Kd.R_reads' HO_174002.out).2.2 | (with_reducible refine Kd.C_alloc ?_ _) | (with_reducible refine Kd.C_drewN ?_ _) | (with_reducible refine Kd.C_drew ?_)))
                                    (case side2 => exact (Kd.R_reads' HO_174002.out).2.1)
                                    (case side3 => repeat (first | exact (Kd.R_reads' HO200.out).2.2 | (with_reducible refine Kd.C_alloc ?_ _) | (with_reducible refine Kd.C_drewN ?_ _) | (with_reducible refine Kd.C_drew ?_)))
                                    (case side4 => exact (Kd.R_reads' HO200.out).2.1)
                                    rintro e w' ⟨rfl, ⟨nd, rfl⟩⟩
                                    refine ⟨_, rfl, ?_⟩
                                    refine hK.out _ _ ⟨(blk_cell BK173.out 0).trans rfl, (blk_cell BK173.out 1).trans rfl, (blk_cell BK173.out 2).trans rfl, (blk_cell BK155.out 0).trans rfl, (blk_cell BK155.out 1).trans rfl, (blk_cell BK155.out 2).trans rfl⟩ (fun hHeld => ?_)
                                    clear hK K
                                    refine norm_ (a' := ?_) ?_ ?_
                                    rotate_left
                                    · show Act.put _ (some 101) _ = _
                                      simp only [Act.put, List.setIfInBounds_toArray, List.set_cons_zero, List.set_cons_succ, i64_w, i32_w]
                                      rfl
                                    refine pure_ (i := 13) (N := some 102) (v := ?_) (a' := ?_) #[true, true, true, true, true, true, true, true, true, true, true, true, true, true, false, false, false, false, false, false, false, false, false, false] rfl rfl (any_of HT_.out (by kernel_rfl)) (fun _ _ _ h => h) (Or.inl ⟨by rfl, ?_⟩) ?_ ?_
                                    rotate_left
                                    · intro w'
                                      go_simp
                                      with_reducible rfl
                                    rotate_left
                                    · simp only [Act.put, List.setIfInBounds_toArray, List.set_cons_zero, List.set_cons_succ, i64_w, i32_w]
                                      rfl
                                    refine pure_ (i := 14) (N := some 103) (v := ?_) (a' := ?_) #[true, true, true, true, true, true, true, true, true, true, true, true, true, true, true, false, false, false, false, false, false, false, false, false] rfl rfl (any_of HT_.out (by kernel_rfl)) (fun _ _ _ h => h) (Or.inl ⟨by rfl, ?_⟩) ?_ ?_
                                    rotate_left
                                    · intro w'
                                      go_simp
                                      with_reducible rfl
                                    rotate_left
                                    · simp only [Act.put, List.setIfInBounds_toArray, List.set_cons_zero, List.set_cons_succ, i64_w, i32_w]
                                      rfl
                                    refine pure_ (i := 15) (N := some 104) (v := undef) (a' := ?_) #[true, true, true, true, true, true, true, true, true, true, true, true, true, true, true, true, false, false, false, false, false, false, false, false] rfl rfl (any_of HT_.out (by kernel_rfl)) (fun _ _ _ h => h) (Or.inr ⟨by rfl, rfl⟩) ?_ ?_
                                    rotate_left
                                    · simp only [Act.put, List.setIfInBounds_toArray, List.set_cons_zero, List.set_cons_succ, i64_w, i32_w]
                                      rfl
                                    refine pure_ (i := 16) (N := some 105) (v := undef) (a' := ?_) #[true, true, true, true, true, true, true, true, true, true, true, true, true, true, true, true, true, false, false, false, false, false, false, false] rfl rfl (any_of HT_.out (by kernel_rfl)) (fun _ _ _ h => h) (Or.inr ⟨by rfl, rfl⟩) ?_ ?_
                                    rotate_left
                                    · simp only [Act.put, List.setIfInBounds_toArray, List.set_cons_zero, List.set_cons_succ, i64_w, i32_w]
                                      rfl
                                    refine pure_ (i := 17) (N := some 106) (v := undef) (a' := ?_) #[true, true, true, true, true, true, true, true, true, true, true, true, true, true, true, true, true, true, false, false, false, false, false, false] rfl rfl (any_of HT_.out (by kernel_rfl)) (fun _ _ _ h => h) (Or.inr ⟨by rfl, rfl⟩) ?_ ?_
                                    rotate_left
                                    · simp only [Act.put, List.setIfInBounds_toArray, List.set_cons_zero, List.set_cons_succ, i64_w, i32_w]
                                      rfl
                                    refine pure_ (i := 18) (N := some 107) (v := undef) (a' := ?_) #[true, true, true, true, true, true, true, true, true, true, true, true, true, true, true, true, true, true, true, false, false, false, false, false] rfl rfl (any_of HT_.out (by kernel_rfl)) (fun _ _ _ h => h) (Or.inr ⟨by rfl, rfl⟩) ?_ ?_
                                    rotate_left
                                    · simp only [Act.put, List.setIfInBounds_toArray, List.set_cons_zero, List.set_cons_succ, i64_w, i32_w]
                                      rfl
                                    refine pure_ (i := 19) (N := some 108) (v := undef) (a' := ?_) #[true, true, true, true, true, true, true, true, true, true, true, true, true, true, true, true, true, true, true, true, false, false, false, false] rfl rfl (any_of HT_.out (by kernel_rfl)) (fun _ _ _ h => h) (Or.inr ⟨by rfl, rfl⟩) ?_ ?_
                                    rotate_left
                                    · simp only [Act.put, List.setIfInBounds_toArray, List.set_cons_zero, List.set_cons_succ, i64_w, i32_w]
                                      rfl
                                    refine pure_ (i := 20) (N := some 109) (v := undef) (a' := ?_) #[true, true, true, true, true, true, true, true, true, true, true, true, true, true, true, true, true, true, true, true, true, false, false, false] rfl rfl (any_of HT_.out (by kernel_rfl)) (fun _ _ _ h => h) (Or.inr ⟨by rfl, rfl⟩) ?_ ?_
                                    rotate_left
                                    · simp only [Act.put, List.setIfInBounds_toArray, List.set_cons_zero, List.set_cons_succ, i64_w, i32_w]
                                      rfl
                                    refine pure_ (i := 21) (N := some 110) (v := undef) (a' := ?_) #[true, true, true, true, true, true, true, true, true, true, true, true, true, true, true, true, true, true, true, true, true, true, false, false] rfl rfl (any_of HT_.out (by kernel_rfl)) (fun _ _ _ h => h) (Or.inr ⟨by rfl, rfl⟩) ?_ ?_
                                    rotate_left
                                    · simp only [Act.put, List.setIfInBounds_toArray, List.set_cons_zero, List.set_cons_succ, i64_w, i32_w]
                                      rfl
                                    refine pure_ (i := 22) (N := some 111) (v := ?_) (a' := ?_) #[true, true, true, true, true, true, true, true, true, true, true, true, true, true, true, true, true, true, true, true, true, true, true, false] rfl rfl (any_of HT_.out (by kernel_rfl)) (fun _ _ _ h => h) (Or.inl ⟨by rfl, ?_⟩) ?_ ?_
                                    rotate_left
                                    · intro w'
                                      go_simp
                                      with_reducible rfl
                                    rotate_left
                                    · simp only [Act.put, List.setIfInBounds_toArray, List.set_cons_zero, List.set_cons_succ, i64_w, i32_w]
                                      rfl
                                    refine pure_ (i := 23) (N := some 6) (v := ?_) (a' := ?_) #[true, true, true, true, true, true, true, true, true, true, true, true, true, true, true, true, true, true, true, true, true, true, true, true] rfl rfl (any_of HT_.out (by kernel_rfl)) (fun _ _ _ h => h) (Or.inl ⟨by rfl, ?_⟩) ?_ ?_
                                    rotate_left
                                    · intro w'
                                      go_simp
                                      with_reducible rfl
                                    rotate_left
                                    · simp only [Act.put, List.setIfInBounds_toArray, List.set_cons_zero, List.set_cons_succ, i64_w, i32_w]
                                      rfl
                                    refine done_ (done_of HT_.out (by kernel_rfl)) ?_
                                    try go_wp2
                                    go_ret
                                    exact ⟨by first | rfl | (simp [errW_none, errW_some] <;> rfl) | (simp only [← hji71]; first | rfl | (simp [errW_none, errW_some] <;> rfl)) | (simp [*, errW_none, errW_some] <;> rfl), by repeat (first | (with_reducible first | exact HB.out | apply below_alloc | apply pw_below_drewN | apply below_drew1 | refine below_set ?_ GE155.out | refine below_set ?_ GE173.out | refine below_set ?_ GE180.out) | exact HB.out)⟩
                                · rw [if_neg c74] at H
                                  exact absurd H (by simp)
                              · rw [if_neg c73] at H
                                exact absurd H (by simp)
                            · rw [if_neg c72] at H
                              exact absurd H (by simp)
                          · rw [if_neg c70] at H
                            exact absurd H (by simp)
                        · replace c69 := Bool.eq_false_iff.mpr c69
                          subst c69
                          have H1 : (some false) = some r := by rw [if_neg (show ¬ (false = true) by decide)] at H; exact H
                          clear H
                          have H := H1
                          clear H1
                          obtain rfl := Option.some.inj H
                          have hnb109 := NB173_155.out
                          have hnc109 := NB155_173.out
                          have hnb110 := NB173_180.out
                          have hnc110 := NB180_173.out
                          have hcz111_0 : wc.cell? ⟨gb173, 0, none⟩ = some (.int .i64 t167) := (blk_cell BK173.out 0).trans rfl
                          have hcz111_1 : wc.cell? ⟨gb173, 1, none⟩ = some (.int .i64 t168) := (blk_cell BK173.out 1).trans rfl
                          have hcz111_2 : wc.cell? ⟨gb173, 2, none⟩ = some (.slice Ao30 t169.length co30) := (blk_cell BK173.out 2).trans rfl
                          have hfz111_0 := blk_frozen BK173.out 0
                          have hfz111_1 := blk_frozen BK173.out 1
                          have hfz111_2 := blk_frozen BK173.out 2
                          have hnb112 := NB180_155.out
                          have hnc112 := NB155_180.out
                          have hcz113_0 : wc.cell? ⟨gb180, 0, none⟩ = some (.int .i64 x181000_18) := (blk_cell BK180.out 0).trans rfl
                          have hcz113_1 : wc.cell? ⟨gb180, 1, none⟩ = some (.int .i64 x181001_18) := (blk_cell BK180.out 1).trans rfl
                          have hcz113_2 : wc.cell? ⟨gb180, 2, none⟩ = some (u181002) := (blk_cell BK180.out 2).trans rfl
                          have hfz113_0 := blk_frozen BK180.out 0
                          have hfz113_1 := blk_frozen BK180.out 1
                          have hfz113_2 := blk_frozen BK180.out 2
                          obtain ⟨Ao114, co114, eo114⟩ := Kd.R_slice HO_181002.out
                          subst eo114
                          try go_wp2_with (first | (go_at_call 11; (with_reducible refine (exergueref04_Same.calls kj18 t167 t168 _ _ t169 x181000_18 x181001_18 _ _ x181002_18 true _ ?side1 ?side2 ?side3 ?side4 A47.out).mono ?_); (case side1 => repeat (first | exact (Kd.R_reads' HO_174002.out).2.2 | (with_reducible refine Kd.C_alloc ?_ _) | (with_reducible refine Kd.C_drewN ?_ _) | (with_reducible refine Kd.C_drew ?_))); (case side2 => exact (Kd.R_reads' HO_174002.out).2.1); (case side3 => repeat (first | exact (Kd.R_reads' HO_181002.out).2.2 | (with_reducible refine Kd.C_alloc ?_ _) | (with_reducible refine Kd.C_drewN ?_ _) | (with_reducible refine Kd.C_drew ?_))); (case side4 => exact (Kd.R_reads' HO_181002.out).2.1); rintro e w115 ⟨rfl, hb⟩; have n0_ := Aside0.mk (Kd.R_below (by (with_reducible repeat (first | apply Kd.R_alloc | apply Kd.R_drewN | apply Kd.R_drew)); exact HO_8.out) hb); have n1_ := Aside0.mk (Kd.R_below (by (with_reducible repeat (first | apply Kd.R_alloc | apply Kd.R_drewN | apply Kd.R_drew)); exact HO_174002.out) hb); have n2_ := Aside0.mk (Kd.R_below (by (with_reducible repeat (first | apply Kd.R_alloc | apply Kd.R_drewN | apply Kd.R_drew)); exact HO_181002.out) hb); have n3_ := Aside0.mk (blk_below (g := gb155) (o := .cells #[.int .i64 a0_0, .int .i64 a0_1, .slice A0_2 l0_2.length c0_2] 24 (0, 0)) (by (with_reducible repeat (first | refine blk_drewN ?_ _ | refine blk_drew ?_ | refine blk_alloc ?_ _)); exact BK155.out) hb); have n4_ := Aside0.mk (blk_below (g := gb173) (o := .cells #[.int .i64 t167, .int .i64 t168, .slice Ao30 t169.length co30] 24 (0, 0)) (by (with_reducible repeat (first | refine blk_drewN ?_ _ | refine blk_drew ?_ | refine blk_alloc ?_ _)); exact BK173.out) hb); have n5_ := Aside0.mk (blk_below (g := gb180) (o := .cells #[.int .i64 x181000_18, .int .i64 x181001_18, .slice Ao114 x181002_18.length co114] 24 (0, 0)) (by (with_reducible repeat (first | refine blk_drewN ?_ _ | refine blk_drew ?_ | refine blk_alloc ?_ _)); exact BK180.out) hb); have n6_ := Aside0.mk (below_step (by repeat (first | (with_reducible first | exact HB.out | apply below_alloc | apply pw_below_drewN | apply below_drew1 | refine below_set ?_ GE155.out | refine below_set ?_ GE173.out | refine below_set ?_ GE180.out) | exact HB.out)) hb); clear HO_8; clear HO_174002; clear HO_181002; clear BK155; clear BK173; clear BK180; clear HB; have HO_8 := n0_; have HO_174002 := n1_; have HO_181002 := n2_; have BK155 := n3_; have BK173 := n4_; have BK180 := n5_; have HB := n6_; clear n0_ n1_ n2_ n3_ n4_ n5_ n6_; (try clear hb); (try clear hb2); (try clear hk); (try clear hi); have hcz116_0 : w115.cell? ⟨gb173, 0, none⟩ = some (.int .i64 t167) := (blk_cell BK173.out 0).trans rfl; have hcz116_1 : w115.cell? ⟨gb173, 1, none⟩ = some (.int .i64 t168) := (blk_cell BK173.out 1).trans rfl; have hcz116_2 : w115.cell? ⟨gb173, 2, none⟩ = some (.slice Ao30 t169.length co30) := (blk_cell BK173.out 2).trans rfl; have hfz116_0 := blk_frozen BK173.out 0; have hfz116_1 := blk_frozen BK173.out 1; have hfz116_2 := blk_frozen BK173.out 2; have hcz117_0 : w115.cell? ⟨gb155, 0, none⟩ = some (.int .i64 a0_0) := (blk_cell BK155.out 0).trans rfl; have hcz117_1 : w115.cell? ⟨gb155, 1, none⟩ = some (.int .i64 a0_1) := (blk_cell BK155.out 1).trans rfl; have hcz117_2 : w115.cell? ⟨gb155, 2, none⟩ = some (.slice A0_2 l0_2.length c0_2) := (blk_cell BK155.out 2).trans rfl; have hfz117_0 := blk_frozen BK155.out 0; have hfz117_1 := blk_frozen BK155.out 1; have hfz117_2 := blk_frozen BK155.out 2))
                          have n0_ := Aside0.mk (Kd.R_drew HO_8.out)
                          have n1_ := Aside0.mk (Kd.R_drew HO_174002.out)
                          have n2_ := Aside0.mk (Kd.R_drew HO_181002.out)
                          have n3_ := Aside0.mk (blk_drew BK155.out)
                          have n4_ := Aside0.mk (blk_drew BK173.out)
                          have n5_ := Aside0.mk (blk_drew BK180.out)
                          have n6_ := Aside0.mk (below_drew1 HB.out)
                          clear HO_8
                          clear HO_174002
                          clear HO_181002
                          clear BK155
                          clear BK173
                          clear BK180
                          clear HB
                          have HO_8 := n0_
                          have HO_174002 := n1_
                          have HO_181002 := n2_
                          have BK155 := n3_
                          have BK173 := n4_
                          have BK180 := n5_
                          have HB := n6_
                          clear n0_ n1_ n2_ n3_ n4_ n5_ n6_
                          refine start_ (n := 24) (S := fun w' => True) (ds := []) #[false, false, false, false, false, false, false, false, false, false, false, false, false, false, false, false, false, false, false, false, false, false, false, false] (by kernel_rfl) rfl rfl trivial (fun hHeld => ?_); refine with_tabW exerguelaw04_TankParts.tab12 exerguelaw04_TankParts.bits12 (fun HT_ HW_ => ?_)
                          generalize w115.drew = w118 at HO_8 HO_174002 HO_181002 BK155 BK173 BK180 HB hHeld ⊢
                          refine pure_ (i := 0) (N := some 89) (v := ?_) (a' := ?_) #[true, false, false, false, false, false, false, false, false, false, false, false, false, false, false, false, false, false, false, false, false, false, false, false] rfl rfl (any_of HT_.out (by kernel_rfl)) (fun _ _ _ h => h) (Or.inl ⟨by rfl, ?_⟩) ?_ ?_
                          rotate_left
                          · intro w'
                            go_simp
                            with_reducible rfl
                          rotate_left
                          · simp only [Act.put, List.setIfInBounds_toArray, List.set_cons_zero, List.set_cons_succ, i64_w, i32_w]
                            rfl
                          refine pure_ (i := 1) (N := some 90) (v := ?_) (a' := ?_) #[true, true, false, false, false, false, false, false, false, false, false, false, false, false, false, false, false, false, false, false, false, false, false, false] rfl rfl (any_of HT_.out (by kernel_rfl)) (fun _ _ _ h => h) (Or.inl ⟨by rfl, ?_⟩) ?_ ?_
                          rotate_left
                          · intro w'
                            go_simp
                            with_reducible rfl
                          rotate_left
                          · simp only [Act.put, List.setIfInBounds_toArray, List.set_cons_zero, List.set_cons_succ, i64_w, i32_w]
                            rfl
                          refine pure_ (i := 2) (N := some 91) (v := undef) (a' := ?_) #[true, true, true, false, false, false, false, false, false, false, false, false, false, false, false, false, false, false, false, false, false, false, false, false] rfl rfl (any_of HT_.out (by kernel_rfl)) (fun _ _ _ h => h) (Or.inr ⟨by rfl, rfl⟩) ?_ ?_
                          rotate_left
                          · simp only [Act.put, List.setIfInBounds_toArray, List.set_cons_zero, List.set_cons_succ, i64_w, i32_w]
                            rfl
                          refine pure_ (i := 3) (N := some 92) (v := undef) (a' := ?_) #[true, true, true, true, false, false, false, false, false, false, false, false, false, false, false, false, false, false, false, false, false, false, false, false] rfl rfl (any_of HT_.out (by kernel_rfl)) (fun _ _ _ h => h) (Or.inr ⟨by rfl, rfl⟩) ?_ ?_
                          rotate_left
                          · simp only [Act.put, List.setIfInBounds_toArray, List.set_cons_zero, List.set_cons_succ, i64_w, i32_w]
                            rfl
                          refine pure_ (i := 4) (N := some 93) (v := undef) (a' := ?_) #[true, true, true, true, true, false, false, false, false, false, false, false, false, false, false, false, false, false, false, false, false, false, false, false] rfl rfl (any_of HT_.out (by kernel_rfl)) (fun _ _ _ h => h) (Or.inr ⟨by rfl, rfl⟩) ?_ ?_
                          rotate_left
                          · simp only [Act.put, List.setIfInBounds_toArray, List.set_cons_zero, List.set_cons_succ, i64_w, i32_w]
                            rfl
                          refine pure_ (i := 5) (N := some 94) (v := undef) (a' := ?_) #[true, true, true, true, true, true, false, false, false, false, false, false, false, false, false, false, false, false, false, false, false, false, false, false] rfl rfl (any_of HT_.out (by kernel_rfl)) (fun _ _ _ h => h) (Or.inr ⟨by rfl, rfl⟩) ?_ ?_
                          rotate_left
                          · simp only [Act.put, List.setIfInBounds_toArray, List.set_cons_zero, List.set_cons_succ, i64_w, i32_w]
                            rfl
                          refine pure_ (i := 6) (N := some 95) (v := undef) (a' := ?_) #[true, true, true, true, true, true, true, false, false, false, false, false, false, false, false, false, false, false, false, false, false, false, false, false] rfl rfl (any_of HT_.out (by kernel_rfl)) (fun _ _ _ h => h) (Or.inr ⟨by rfl, rfl⟩) ?_ ?_
                          rotate_left
                          · simp only [Act.put, List.setIfInBounds_toArray, List.set_cons_zero, List.set_cons_succ, i64_w, i32_w]
                            rfl
                          refine pure_ (i := 7) (N := some 96) (v := undef) (a' := ?_) #[true, true, true, true, true, true, true, true, false, false, false, false, false, false, false, false, false, false, false, false, false, false, false, false] rfl rfl (any_of HT_.out (by kernel_rfl)) (fun _ _ _ h => h) (Or.inr ⟨by rfl, rfl⟩) ?_ ?_
                          rotate_left
                          · simp only [Act.put, List.setIfInBounds_toArray, List.set_cons_zero, List.set_cons_succ, i64_w, i32_w]
                            rfl
                          refine pure_ (i := 8) (N := some 97) (v := undef) (a' := ?_) #[true, true, true, true, true, true, true, true, true, false, false, false, false, false, false, false, false, false, false, false, false, false, false, false] rfl rfl (any_of HT_.out (by kernel_rfl)) (fun _ _ _ h => h) (Or.inr ⟨by rfl, rfl⟩) ?_ ?_
                          rotate_left
                          · simp only [Act.put, List.setIfInBounds_toArray, List.set_cons_zero, List.set_cons_succ, i64_w, i32_w]
                            rfl
                          refine pure_ (i := 9) (N := some 98) (v := undef) (a' := ?_) #[true, true, true, true, true, true, true, true, true, true, false, false, false, false, false, false, false, false, false, false, false, false, false, false] rfl rfl (any_of HT_.out (by kernel_rfl)) (fun _ _ _ h => h) (Or.inr ⟨by rfl, rfl⟩) ?_ ?_
                          rotate_left
                          · simp only [Act.put, List.setIfInBounds_toArray, List.set_cons_zero, List.set_cons_succ, i64_w, i32_w]
                            rfl
                          refine pure_ (i := 10) (N := some 99) (v := undef) (a' := ?_) #[true, true, true, true, true, true, true, true, true, true, true, false, false, false, false, false, false, false, false, false, false, false, false, false] rfl rfl (any_of HT_.out (by kernel_rfl)) (fun _ _ _ h => h) (Or.inr ⟨by rfl, rfl⟩) ?_ ?_
                          rotate_left
                          · simp only [Act.put, List.setIfInBounds_toArray, List.set_cons_zero, List.set_cons_succ, i64_w, i32_w]
                            rfl
                          refine pure_ (i := 11) (N := some 100) (v := undef) (a' := ?_) #[true, true, true, true, true, true, true, true, true, true, true, true, false, false, false, false, false, false, false, false, false, false, false, false] rfl rfl (any_of HT_.out (by kernel_rfl)) (fun _ _ _ h => h) (Or.inr ⟨by rfl, rfl⟩) ?_ ?_
                          rotate_left
                          · simp only [Act.put, List.setIfInBounds_toArray, List.set_cons_zero, List.set_cons_succ, i64_w, i32_w]
                            rfl
                          refine pure_ (i := 12) (N := some 101) (v := undef) (a' := ?_) #[true, true, true, true, true, true, true, true, true, true, true, true, true, false, false, false, false, false, false, false, false, false, false, false] rfl rfl (any_of HT_.out (by kernel_rfl)) (fun _ _ _ h => h) (Or.inr ⟨by rfl, rfl⟩) ?_ ?_
                          rotate_left
                          · simp only [Act.put, List.setIfInBounds_toArray, List.set_cons_zero, List.set_cons_succ, i64_w, i32_w]
                            rfl
                          refine pure_ (i := 13) (N := some 102) (v := ?_) (a' := ?_) #[true, true, true, true, true, true, true, true, true, true, true, true, true, true, false, false, false, false, false, false, false, false, false, false] rfl rfl (any_of HT_.out (by kernel_rfl)) (fun _ _ _ h => h) (Or.inl ⟨by rfl, ?_⟩) ?_ ?_
                          rotate_left
                          · intro w'
                            go_simp
                            with_reducible rfl
                          rotate_left
                          · simp only [Act.put, List.setIfInBounds_toArray, List.set_cons_zero, List.set_cons_succ, i64_w, i32_w]
                            rfl
                          refine pure_ (i := 14) (N := some 103) (v := ?_) (a' := ?_) #[true, true, true, true, true, true, true, true, true, true, true, true, true, true, true, false, false, false, false, false, false, false, false, false] rfl rfl (any_of HT_.out (by kernel_rfl)) (fun _ _ _ h => h) (Or.inl ⟨by rfl, ?_⟩) ?_ ?_
                          rotate_left
                          · intro w'
                            go_simp
                            with_reducible rfl
                          rotate_left
                          · simp only [Act.put, List.setIfInBounds_toArray, List.set_cons_zero, List.set_cons_succ, i64_w, i32_w]
                            rfl
                          refine pure_ (i := 15) (N := some 104) (v := undef) (a' := ?_) #[true, true, true, true, true, true, true, true, true, true, true, true, true, true, true, true, false, false, false, false, false, false, false, false] rfl rfl (any_of HT_.out (by kernel_rfl)) (fun _ _ _ h => h) (Or.inr ⟨by rfl, rfl⟩) ?_ ?_
                          rotate_left
                          · simp only [Act.put, List.setIfInBounds_toArray, List.set_cons_zero, List.set_cons_succ, i64_w, i32_w]
                            rfl
                          refine pure_ (i := 16) (N := some 105) (v := undef) (a' := ?_) #[true, true, true, true, true, true, true, true, true, true, true, true, true, true, true, true, true, false, false, false, false, false, false, false] rfl rfl (any_of HT_.out (by kernel_rfl)) (fun _ _ _ h => h) (Or.inr ⟨by rfl, rfl⟩) ?_ ?_
                          rotate_left
                          · simp only [Act.put, List.setIfInBounds_toArray, List.set_cons_zero, List.set_cons_succ, i64_w, i32_w]
                            rfl
                          refine pure_ (i := 17) (N := some 106) (v := undef) (a' := ?_) #[true, true, true, true, true, true, true, true, true, true, true, true, true, true, true, true, true, true, false, false, false, false, false, false] rfl rfl (any_of HT_.out (by kernel_rfl)) (fun _ _ _ h => h) (Or.inr ⟨by rfl, rfl⟩) ?_ ?_
                          rotate_left
                          · simp only [Act.put, List.setIfInBounds_toArray, List.set_cons_zero, List.set_cons_succ, i64_w, i32_w]
                            rfl
                          refine pure_ (i := 18) (N := some 107) (v := undef) (a' := ?_) #[true, true, true, true, true, true, true, true, true, true, true, true, true, true, true, true, true, true, true, false, false, false, false, false] rfl rfl (any_of HT_.out (by kernel_rfl)) (fun _ _ _ h => h) (Or.inr ⟨by rfl, rfl⟩) ?_ ?_
                          rotate_left
                          · simp only [Act.put, List.setIfInBounds_toArray, List.set_cons_zero, List.set_cons_succ, i64_w, i32_w]
                            rfl
                          refine pure_ (i := 19) (N := some 108) (v := undef) (a' := ?_) #[true, true, true, true, true, true, true, true, true, true, true, true, true, true, true, true, true, true, true, true, false, false, false, false] rfl rfl (any_of HT_.out (by kernel_rfl)) (fun _ _ _ h => h) (Or.inr ⟨by rfl, rfl⟩) ?_ ?_
                          rotate_left
                          · simp only [Act.put, List.setIfInBounds_toArray, List.set_cons_zero, List.set_cons_succ, i64_w, i32_w]
                            rfl
                          refine pure_ (i := 20) (N := some 109) (v := undef) (a' := ?_) #[true, true, true, true, true, true, true, true, true, true, true, true, true, true, true, true, true, true, true, true, true, false, false, false] rfl rfl (any_of HT_.out (by kernel_rfl)) (fun _ _ _ h => h) (Or.inr ⟨by rfl, rfl⟩) ?_ ?_
                          rotate_left
                          · simp only [Act.put, List.setIfInBounds_toArray, List.set_cons_zero, List.set_cons_succ, i64_w, i32_w]
                            rfl
                          refine pure_ (i := 21) (N := some 110) (v := undef) (a' := ?_) #[true, true, true, true, true, true, true, true, true, true, true, true, true, true, true, true, true, true, true, true, true, true, false, false] rfl rfl (any_of HT_.out (by kernel_rfl)) (fun _ _ _ h => h) (Or.inr ⟨by rfl, rfl⟩) ?_ ?_
                          rotate_left
                          · simp only [Act.put, List.setIfInBounds_toArray, List.set_cons_zero, List.set_cons_succ, i64_w, i32_w]
                            rfl
                          refine pure_ (i := 22) (N := some 111) (v := ?_) (a' := ?_) #[true, true, true, true, true, true, true, true, true, true, true, true, true, true, true, true, true, true, true, true, true, true, true, false] rfl rfl (any_of HT_.out (by kernel_rfl)) (fun _ _ _ h => h) (Or.inl ⟨by rfl, ?_⟩) ?_ ?_
                          rotate_left
                          · intro w'
                            go_simp
                            with_reducible rfl
                          rotate_left
                          · simp only [Act.put, List.setIfInBounds_toArray, List.set_cons_zero, List.set_cons_succ, i64_w, i32_w]
                            rfl
                          refine pure_ (i := 23) (N := some 6) (v := ?_) (a' := ?_) #[true, true, true, true, true, true, true, true, true, true, true, true, true, true, true, true, true, true, true, true, true, true, true, true] rfl rfl (any_of HT_.out (by kernel_rfl)) (fun _ _ _ h => h) (Or.inl ⟨by rfl, ?_⟩) ?_ ?_
                          rotate_left
                          · intro w'
                            go_simp
                            with_reducible rfl
                          rotate_left
                          · simp only [Act.put, List.setIfInBounds_toArray, List.set_cons_zero, List.set_cons_succ, i64_w, i32_w]
                            rfl
                          refine done_ (done_of HT_.out (by kernel_rfl)) ?_
                          try go_wp2
                          go_ret
                          exact ⟨by first | rfl | (simp [errW_none, errW_some] <;> rfl) | (simp [*, errW_none, errW_some] <;> rfl), by repeat (first | (with_reducible first | exact HB.out | apply below_alloc | apply pw_below_drewN | apply below_drew1 | refine below_set ?_ GE155.out | refine below_set ?_ GE173.out | refine below_set ?_ GE180.out) | exact HB.out)⟩
                  · replace c48 := Bool.eq_false_iff.mpr c48
                    subst c48
                    have H1 : (some false) = some r := by rw [if_neg (show ¬ (false = true) by decide)] at H; exact H
                    clear H
                    have H := H1
                    clear H1
                    obtain rfl := Option.some.inj H
                    have hnb119 := NB173_155.out
                    have hnc119 := NB155_173.out
                    have hnb120 := NB173_180.out
                    have hnc120 := NB180_173.out
                    have hcz121_0 : wc.cell? ⟨gb173, 0, none⟩ = some (.int .i64 t167) := (blk_cell BK173.out 0).trans rfl
                    have hcz121_1 : wc.cell? ⟨gb173, 1, none⟩ = some (.int .i64 t168) := (blk_cell BK173.out 1).trans rfl
                    have hcz121_2 : wc.cell? ⟨gb173, 2, none⟩ = some (.slice Ao30 t169.length co30) := (blk_cell BK173.out 2).trans rfl
                    have hfz121_0 := blk_frozen BK173.out 0
                    have hfz121_1 := blk_frozen BK173.out 1
                    have hfz121_2 := blk_frozen BK173.out 2
                    have hnb122 := NB180_155.out
                    have hnc122 := NB155_180.out
                    have hcz123_0 : wc.cell? ⟨gb180, 0, none⟩ = some (.int .i64 x181000_18) := (blk_cell BK180.out 0).trans rfl
                    have hcz123_1 : wc.cell? ⟨gb180, 1, none⟩ = some (.int .i64 x181001_18) := (blk_cell BK180.out 1).trans rfl
                    have hcz123_2 : wc.cell? ⟨gb180, 2, none⟩ = some (u181002) := (blk_cell BK180.out 2).trans rfl
                    have hfz123_0 := blk_frozen BK180.out 0
                    have hfz123_1 := blk_frozen BK180.out 1
                    have hfz123_2 := blk_frozen BK180.out 2
                    obtain ⟨Ao124, co124, eo124⟩ := Kd.R_slice HO_181002.out
                    subst eo124
                    go_wp2_with (first | (go_at_call 11; (with_reducible refine (exergueref04_Same.calls kj18 t167 t168 _ _ t169 x181000_18 x181001_18 _ _ x181002_18 false _ ?side1 ?side2 ?side3 ?side4 A47.out).mono ?_); (case side1 => repeat (first | exact (Kd.R_reads' HO_174002.out).2.2 | (with_reducible refine Kd.C_alloc ?_ _) | (with_reducible refine Kd.C_drewN ?_ _) | (with_reducible refine Kd.C_drew ?_))); (case side2 => exact (Kd.R_reads' HO_174002.out).2.1); (case side3 => repeat (first | exact (Kd.R_reads' HO_181002.out).2.2 | (with_reducible refine Kd.C_alloc ?_ _) | (with_reducible refine Kd.C_drewN ?_ _) | (with_reducible refine Kd.C_drew ?_))); (case side4 => exact (Kd.R_reads' HO_181002.out).2.1); rintro e w125 ⟨rfl, hb⟩; have n0_ := Aside0.mk (Kd.R_below (by (with_reducible repeat (first | apply Kd.R_alloc | apply Kd.R_drewN | apply Kd.R_drew)); exact HO_8.out) hb); have n1_ := Aside0.mk (Kd.R_below (by (with_reducible repeat (first | apply Kd.R_alloc | apply Kd.R_drewN | apply Kd.R_drew)); exact HO_174002.out) hb); have n2_ := Aside0.mk (Kd.R_below (by (with_reducible repeat (first | apply Kd.R_alloc | apply Kd.R_drewN | apply Kd.R_drew)); exact HO_181002.out) hb); have n3_ := Aside0.mk (blk_below (g := gb155) (o := .cells #[.int .i64 a0_0, .int .i64 a0_1, .slice A0_2 l0_2.length c0_2] 24 (0, 0)) (by (with_reducible repeat (first | refine blk_drewN ?_ _ | refine blk_drew ?_ | refine blk_alloc ?_ _)); exact BK155.out) hb); have n4_ := Aside0.mk (blk_below (g := gb173) (o := .cells #[.int .i64 t167, .int .i64 t168, .slice Ao30 t169.length co30] 24 (0, 0)) (by (with_reducible repeat (first | refine blk_drewN ?_ _ | refine blk_drew ?_ | refine blk_alloc ?_ _)); exact BK173.out) hb); have n5_ := Aside0.mk (blk_below (g := gb180) (o := .cells #[.int .i64 x181000_18, .int .i64 x181001_18, .slice Ao124 x181002_18.length co124] 24 (0, 0)) (by (with_reducible repeat (first | refine blk_drewN ?_ _ | refine blk_drew ?_ | refine blk_alloc ?_ _)); exact BK180.out) hb); have n6_ := Aside0.mk (below_step (by repeat (first | (with_reducible first | exact HB.out | apply below_alloc | apply pw_below_drewN | apply below_drew1 | refine below_set ?_ GE155.out | refine below_set ?_ GE173.out | refine below_set ?_ GE180.out) | exact HB.out)) hb); clear HO_8; clear HO_174002; clear HO_181002; clear BK155; clear BK173; clear BK180; clear HB; have HO_8 := n0_; have HO_174002 := n1_; have HO_181002 := n2_; have BK155 := n3_; have BK173 := n4_; have BK180 := n5_; have HB := n6_; clear n0_ n1_ n2_ n3_ n4_ n5_ n6_; (try clear hb); (try clear hb2); (try clear hk); (try clear hi)))
                    go_ret
                    exact ⟨by first | rfl | (simp [errW_none, errW_some] <;> rfl) | (simp [*, errW_none, errW_some] <;> rfl), by repeat (first | (with_reducible first | exact HB.out | apply below_alloc | apply pw_below_drewN | apply below_drew1 | refine below_set ?_ GE155.out | refine below_set ?_ GE173.out | refine below_set ?_ GE180.out) | exact HB.out)⟩
                · rw [if_neg c46] at H
                  have c46b0 : (t172 == x12_18) = false := beq_eq_false_iff_ne.mpr c46
                  have c46b1 : (t172 != x12_18) = true := bne_iff_ne.mpr c46
                  obtain rfl := Option.some.inj H
                  go_wp2
                  go_ret
                  exact ⟨by first | rfl | (simp [errW_none, errW_some] <;> rfl) | (simp [*, errW_none, errW_some] <;> rfl), by repeat (first | (with_reducible first | exact HB.out | apply below_alloc | apply pw_below_drewN | apply below_drew1 | refine below_set ?_ GE155.out | refine below_set ?_ GE173.out | refine below_set ?_ GE180.out) | exact HB.out)⟩
          · rw [if_neg c16] at H
            exact absurd H (by simp)
        · rw [if_neg c15] at H
          exact absurd H (by simp)

end Go.Proofs.Ytlmgpjeienhihaa.Q
